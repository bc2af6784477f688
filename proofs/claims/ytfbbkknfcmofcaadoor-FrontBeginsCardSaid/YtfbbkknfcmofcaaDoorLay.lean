/- The layouts of this seat's types, each proved by closed facts off the loaded program. Written by a program (wip/tools/lay.py). -/
import Derived.Test.YtfbbkknfcmofcaaDoorSyX
import Derived.Test.YtfbbkknfcmofcaaDoorProg
namespace Go.Proofs.YtfbbkknfcmofcaaDoor
open Go.Sy
set_option linter.unusedVariables false
-- func()
abbrev y1 : Lay := { zero := [.lit .nilFunc] }
theorem lay1 : LayOk Tryd.prog 1 y1 := layFn (d := (Tryd.prog.underlying 1).getD .bool) (by kernel_rfl) (by kernel_rfl) (by kernel_rfl)
-- int64
abbrev y2 : Lay := { zero := [.lit (.int .i64 0)], kind := some .i64 }
theorem lay2 : LayOk Tryd.prog 2 y2 := layInt .i64 (by kernel_rfl) (by kernel_rfl)
-- int
abbrev y3 : Lay := { zero := [.lit (.int .i64 0)], kind := some .i64 }
theorem lay3 : LayOk Tryd.prog 3 y3 := layInt .i64 (by kernel_rfl) (by kernel_rfl)
-- bool
abbrev y4 : Lay := { zero := [.lit (.bool false)], eqs := some [.b] }
theorem lay4 : LayOk Tryd.prog 4 y4 := layBool (by kernel_rfl) (by kernel_rfl) (by kernel_rfl)
-- uint8
abbrev y5 : Lay := { zero := [.lit (.int .u8 0)], kind := some .u8 }
theorem lay5 : LayOk Tryd.prog 5 y5 := layInt .u8 (by kernel_rfl) (by kernel_rfl)
-- string
abbrev y9 : Lay := { zero := [.lit (.string ByteArray.empty)], sk := 1 }
theorem lay9 : LayOk Tryd.prog 9 y9 := laySk 1 (layStr (by kernel_rfl) (by kernel_rfl)) (sk1 (by kernel_rfl))
-- uintptr
abbrev y12 : Lay := { zero := [.lit (.int .u64 0)], kind := some .u64 }
theorem lay12 : LayOk Tryd.prog 12 y12 := layInt .u64 (by kernel_rfl) (by kernel_rfl)
-- int32
abbrev y21 : Lay := { zero := [.lit (.int .i32 0)], kind := some .i32 }
theorem lay21 : LayOk Tryd.prog 21 y21 := layInt .i32 (by kernel_rfl) (by kernel_rfl)
-- []api.Entry
abbrev y22 : Lay := { zero := [.sl (.tp (.ti .i64) (.tp (.ti .i64) (.tp (.ti .i64) (.tp (.ti .i64) (.tp (.ti .i64) (.ti .u64)))))) []], el := some 6, ety := some (.tp (.ti .i64) (.tp (.ti .i64) (.tp (.ti .i64) (.tp (.ti .i64) (.tp (.ti .i64) (.ti .u64))))), 40, 48) }
theorem lay22 : LayOk Tryd.prog 22 y22 := laySlice 40 (.tp (.ti .i64) (.tp (.ti .i64) (.tp (.ti .i64) (.tp (.ti .i64) (.tp (.ti .i64) (.ti .u64)))))) 48 (by kernel_rfl) (by kernel_rfl) (by kernel_rfl) (by decide) (by decide)
-- uint64
abbrev y23 : Lay := { zero := [.lit (.int .u64 0)], kind := some .u64 }
theorem lay23 : LayOk Tryd.prog 23 y23 := layInt .u64 (by kernel_rfl) (by kernel_rfl)
-- struct { Stand int; Entries []api.Entry; Chain uint64 }
abbrev y24 : Lay := { size := 3, agg := true, zero := [.lit (.int .i64 0), nilS, .lit (.int .u64 0)], fs := [(0, 1), (1, 1), (2, 1)], eqs := none, cv := [(1, (.tp (.ti .i64) (.tp (.ti .i64) (.tp (.ti .i64) (.tp (.ti .i64) (.tp (.ti .i64) (.ti .u64))))), (40, false)))], cz := [(1, .tp (.ti .i64) (.tp (.ti .i64) (.tp (.ti .i64) (.tp (.ti .i64) (.tp (.ti .i64) (.ti .u64))))))] }
theorem lay24 : LayOk Tryd.prog 24 y24 := layStruct (zs := [.int .i64 0, .slice none 0 0, .int .u64 0]) (by kernel_rfl) rfl (by kernel_rfl) (by kernel_rfl) (by decide) (fun ks h => by cases h)
-- api.Log
abbrev y25 : Lay := { size := 3, agg := true, zero := [.lit (.int .i64 0), nilS, .lit (.int .u64 0)], fs := [(0, 1), (1, 1), (2, 1)], eqs := none, cv := [(1, (.tp (.ti .i64) (.tp (.ti .i64) (.tp (.ti .i64) (.tp (.ti .i64) (.tp (.ti .i64) (.ti .u64))))), (40, false)))], cz := [(1, .tp (.ti .i64) (.tp (.ti .i64) (.tp (.ti .i64) (.tp (.ti .i64) (.tp (.ti .i64) (.ti .u64))))))] }
theorem lay25 : LayOk Tryd.prog 25 y25 := layStruct (zs := [.int .i64 0, .slice none 0 0, .int .u64 0]) (by kernel_rfl) rfl (by kernel_rfl) (by kernel_rfl) (by decide) (fun ks h => by cases h)
-- func() bool
abbrev y26 : Lay := { zero := [.lit .nilFunc] }
theorem lay26 : LayOk Tryd.prog 26 y26 := layFn (d := (Tryd.prog.underlying 26).getD .bool) (by kernel_rfl) (by kernel_rfl) (by kernel_rfl)
-- func(api.Log) bool
abbrev y27 : Lay := { zero := [.lit .nilFunc] }
theorem lay27 : LayOk Tryd.prog 27 y27 := layFn (d := (Tryd.prog.underlying 27).getD .bool) (by kernel_rfl) (by kernel_rfl) (by kernel_rfl)
-- []int
abbrev y28 : Lay := { zero := [.sl (.ti .i64) []], el := some 1, ety := some (.ti .i64, 3, 8) }
theorem lay28 : LayOk Tryd.prog 28 y28 := laySlice 3 (.ti .i64) 8 (by kernel_rfl) (by kernel_rfl) (by kernel_rfl) (by decide) (by decide)
-- struct { Version int; Edition int; Known int; Sheets []int }
abbrev y29 : Lay := { size := 4, agg := true, zero := [.lit (.int .i64 0), .lit (.int .i64 0), .lit (.int .i64 0), nilS], fs := [(0, 1), (1, 1), (2, 1), (3, 1)], eqs := none, cv := [(3, (.ti .i64, (3, false)))], cz := [(3, .ti .i64)] }
theorem lay29 : LayOk Tryd.prog 29 y29 := layStruct (zs := [.int .i64 0, .int .i64 0, .int .i64 0, .slice none 0 0]) (by kernel_rfl) rfl (by kernel_rfl) (by kernel_rfl) (by decide) (fun ks h => by cases h)
-- api.Front
abbrev y30 : Lay := { size := 4, agg := true, zero := [.lit (.int .i64 0), .lit (.int .i64 0), .lit (.int .i64 0), nilS], fs := [(0, 1), (1, 1), (2, 1), (3, 1)], eqs := none, cv := [(3, (.ti .i64, (3, false)))], cz := [(3, .ti .i64)] }
theorem lay30 : LayOk Tryd.prog 30 y30 := layStruct (zs := [.int .i64 0, .int .i64 0, .int .i64 0, .slice none 0 0]) (by kernel_rfl) rfl (by kernel_rfl) (by kernel_rfl) (by decide) (fun ks h => by cases h)
-- api.Errno
abbrev y31 : Lay := { zero := [.lit (.int .i64 0)], kind := some .i64 }
theorem lay31 : LayOk Tryd.prog 31 y31 := layInt .i64 (by kernel_rfl) (by kernel_rfl)
-- func(api.Log, int) (api.Front, api.Errno)
abbrev y33 : Lay := { zero := [.lit .nilFunc] }
theorem lay33 : LayOk Tryd.prog 33 y33 := layFn (d := (Tryd.prog.underlying 33).getD .bool) (by kernel_rfl) (by kernel_rfl) (by kernel_rfl)
-- func(api.Front, api.Front) bool
abbrev y34 : Lay := { zero := [.lit .nilFunc] }
theorem lay34 : LayOk Tryd.prog 34 y34 := layFn (d := (Tryd.prog.underlying 34).getD .bool) (by kernel_rfl) (by kernel_rfl) (by kernel_rfl)
-- func(api.Log) ([]int, api.Errno)
abbrev y36 : Lay := { zero := [.lit .nilFunc] }
theorem lay36 : LayOk Tryd.prog 36 y36 := layFn (d := (Tryd.prog.underlying 36).getD .bool) (by kernel_rfl) (by kernel_rfl) (by kernel_rfl)
-- func([]int, []int) bool
abbrev y37 : Lay := { zero := [.lit .nilFunc] }
theorem lay37 : LayOk Tryd.prog 37 y37 := layFn (d := (Tryd.prog.underlying 37).getD .bool) (by kernel_rfl) (by kernel_rfl) (by kernel_rfl)
-- func(api.Log, int) bool
abbrev y38 : Lay := { zero := [.lit .nilFunc] }
theorem lay38 : LayOk Tryd.prog 38 y38 := layFn (d := (Tryd.prog.underlying 38).getD .bool) (by kernel_rfl) (by kernel_rfl) (by kernel_rfl)
-- struct { Time int; Kind int; A int; B int; C int; Digest uint64 }
abbrev y39 : Lay := { size := 6, agg := true, zero := [.lit (.int .i64 0), .lit (.int .i64 0), .lit (.int .i64 0), .lit (.int .i64 0), .lit (.int .i64 0), .lit (.int .u64 0)], fs := [(0, 1), (1, 1), (2, 1), (3, 1), (4, 1), (5, 1)], eqs := some [.i, .i, .i, .i, .i, .i] }
theorem lay39 : LayOk Tryd.prog 39 y39 := layStruct (zs := [.int .i64 0, .int .i64 0, .int .i64 0, .int .i64 0, .int .i64 0, .int .u64 0]) (by kernel_rfl) rfl (by kernel_rfl) (by kernel_rfl) (by decide) (fun ks h => by injection h with h; subst h; exact ⟨by kernel_rfl, by kernel_rfl⟩)
-- api.Entry
abbrev y40 : Lay := { size := 6, agg := true, zero := [.lit (.int .i64 0), .lit (.int .i64 0), .lit (.int .i64 0), .lit (.int .i64 0), .lit (.int .i64 0), .lit (.int .u64 0)], fs := [(0, 1), (1, 1), (2, 1), (3, 1), (4, 1), (5, 1)], eqs := some [.i, .i, .i, .i, .i, .i] }
theorem lay40 : LayOk Tryd.prog 40 y40 := layStruct (zs := [.int .i64 0, .int .i64 0, .int .i64 0, .int .i64 0, .int .i64 0, .int .u64 0]) (by kernel_rfl) rfl (by kernel_rfl) (by kernel_rfl) (by decide) (fun ks h => by injection h with h; subst h; exact ⟨by kernel_rfl, by kernel_rfl⟩)
-- func(api.Log, api.Entry) (api.Log, api.Errno)
abbrev y42 : Lay := { zero := [.lit .nilFunc] }
theorem lay42 : LayOk Tryd.prog 42 y42 := layFn (d := (Tryd.prog.underlying 42).getD .bool) (by kernel_rfl) (by kernel_rfl) (by kernel_rfl)
-- func(api.Log, api.Entry, int) bool
abbrev y43 : Lay := { zero := [.lit .nilFunc] }
theorem lay43 : LayOk Tryd.prog 43 y43 := layFn (d := (Tryd.prog.underlying 43).getD .bool) (by kernel_rfl) (by kernel_rfl) (by kernel_rfl)
-- func([]int, int) bool
abbrev y44 : Lay := { zero := [.lit .nilFunc] }
theorem lay44 : LayOk Tryd.prog 44 y44 := layFn (d := (Tryd.prog.underlying 44).getD .bool) (by kernel_rfl) (by kernel_rfl) (by kernel_rfl)
-- func(api.Log, int, int) bool
abbrev y45 : Lay := { zero := [.lit .nilFunc] }
theorem lay45 : LayOk Tryd.prog 45 y45 := layFn (d := (Tryd.prog.underlying 45).getD .bool) (by kernel_rfl) (by kernel_rfl) (by kernel_rfl)
-- func(api.Log, api.Log) (bool, api.Errno)
abbrev y47 : Lay := { zero := [.lit .nilFunc] }
theorem lay47 : LayOk Tryd.prog 47 y47 := layFn (d := (Tryd.prog.underlying 47).getD .bool) (by kernel_rfl) (by kernel_rfl) (by kernel_rfl)
-- func(api.Log, uint8, int) bool
abbrev y48 : Lay := { zero := [.lit .nilFunc] }
theorem lay48 : LayOk Tryd.prog 48 y48 := layFn (d := (Tryd.prog.underlying 48).getD .bool) (by kernel_rfl) (by kernel_rfl) (by kernel_rfl)
-- func([]api.Entry, func(api.Entry) bool) int
abbrev y49 : Lay := { zero := [.lit .nilFunc] }
theorem lay49 : LayOk Tryd.prog 49 y49 := layFn (d := (Tryd.prog.underlying 49).getD .bool) (by kernel_rfl) (by kernel_rfl) (by kernel_rfl)
-- func(api.Entry) bool
abbrev y50 : Lay := { zero := [.lit .nilFunc] }
theorem lay50 : LayOk Tryd.prog 50 y50 := layFn (d := (Tryd.prog.underlying 50).getD .bool) (by kernel_rfl) (by kernel_rfl) (by kernel_rfl)
-- *front.stand
abbrev y51 : Lay := { zero := [.lit (.pointer none)] }
theorem lay51 : LayOk Tryd.prog 51 y51 := layOne (d := (Tryd.prog.underlying 51).getD .bool) (z := .pointer none) (k := none) (by kernel_rfl) (by kernel_rfl) (by kernel_rfl) (fun _ _ => .lit rfl) (fun q h => by cases h)
-- struct { api.Front }
abbrev y52 : Lay := { size := 4, agg := true, zero := [.lit (.int .i64 0), .lit (.int .i64 0), .lit (.int .i64 0), nilS], fs := [(0, 4)], eqs := none, cv := [(3, (.ti .i64, (3, false)))], cz := [(3, .ti .i64)] }
theorem lay52 : LayOk Tryd.prog 52 y52 := layStruct (zs := [.int .i64 0, .int .i64 0, .int .i64 0, .slice none 0 0]) (by kernel_rfl) rfl (by kernel_rfl) (by kernel_rfl) (by decide) (fun ks h => by cases h)
-- front.stand
abbrev y53 : Lay := { size := 4, agg := true, zero := [.lit (.int .i64 0), .lit (.int .i64 0), .lit (.int .i64 0), nilS], fs := [(0, 4)], eqs := none, cv := [(3, (.ti .i64, (3, false)))], cz := [(3, .ti .i64)] }
theorem lay53 : LayOk Tryd.prog 53 y53 := layStruct (zs := [.int .i64 0, .int .i64 0, .int .i64 0, .slice none 0 0]) (by kernel_rfl) rfl (by kernel_rfl) (by kernel_rfl) (by decide) (fun ks h => by cases h)
-- func([]api.Entry, func(int))
abbrev y54 : Lay := { zero := [.lit .nilFunc] }
theorem lay54 : LayOk Tryd.prog 54 y54 := layFn (d := (Tryd.prog.underlying 54).getD .bool) (by kernel_rfl) (by kernel_rfl) (by kernel_rfl)
-- func(int)
abbrev y55 : Lay := { zero := [.lit .nilFunc] }
theorem lay55 : LayOk Tryd.prog 55 y55 := layFn (d := (Tryd.prog.underlying 55).getD .bool) (by kernel_rfl) (by kernel_rfl) (by kernel_rfl)
-- func(api.Log, int) api.Front
abbrev y56 : Lay := { zero := [.lit .nilFunc] }
theorem lay56 : LayOk Tryd.prog 56 y56 := layFn (d := (Tryd.prog.underlying 56).getD .bool) (by kernel_rfl) (by kernel_rfl) (by kernel_rfl)
-- func(int) bool
abbrev y57 : Lay := { zero := [.lit .nilFunc] }
theorem lay57 : LayOk Tryd.prog 57 y57 := layFn (d := (Tryd.prog.underlying 57).getD .bool) (by kernel_rfl) (by kernel_rfl) (by kernel_rfl)
-- func(int, []api.Entry) uint64
abbrev y58 : Lay := { zero := [.lit .nilFunc] }
theorem lay58 : LayOk Tryd.prog 58 y58 := layFn (d := (Tryd.prog.underlying 58).getD .bool) (by kernel_rfl) (by kernel_rfl) (by kernel_rfl)
-- struct { api.Log }
abbrev y59 : Lay := { size := 3, agg := true, zero := [.lit (.int .i64 0), nilS, .lit (.int .u64 0)], fs := [(0, 3)], eqs := none, cv := [(1, (.tp (.ti .i64) (.tp (.ti .i64) (.tp (.ti .i64) (.tp (.ti .i64) (.tp (.ti .i64) (.ti .u64))))), (40, false)))], cz := [(1, .tp (.ti .i64) (.tp (.ti .i64) (.tp (.ti .i64) (.tp (.ti .i64) (.tp (.ti .i64) (.ti .u64))))))] }
theorem lay59 : LayOk Tryd.prog 59 y59 := layStruct (zs := [.int .i64 0, .slice none 0 0, .int .u64 0]) (by kernel_rfl) rfl (by kernel_rfl) (by kernel_rfl) (by decide) (fun ks h => by cases h)
-- seal.book
abbrev y60 : Lay := { size := 3, agg := true, zero := [.lit (.int .i64 0), nilS, .lit (.int .u64 0)], fs := [(0, 3)], eqs := none, cv := [(1, (.tp (.ti .i64) (.tp (.ti .i64) (.tp (.ti .i64) (.tp (.ti .i64) (.tp (.ti .i64) (.ti .u64))))), (40, false)))], cz := [(1, .tp (.ti .i64) (.tp (.ti .i64) (.tp (.ti .i64) (.tp (.ti .i64) (.tp (.ti .i64) (.ti .u64))))))] }
theorem lay60 : LayOk Tryd.prog 60 y60 := layStruct (zs := [.int .i64 0, .slice none 0 0, .int .u64 0]) (by kernel_rfl) rfl (by kernel_rfl) (by kernel_rfl) (by decide) (fun ks h => by cases h)
-- func([]api.Entry) []api.Entry
abbrev y61 : Lay := { zero := [.lit .nilFunc] }
theorem lay61 : LayOk Tryd.prog 61 y61 := layFn (d := (Tryd.prog.underlying 61).getD .bool) (by kernel_rfl) (by kernel_rfl) (by kernel_rfl)
-- func() uint64
abbrev y62 : Lay := { zero := [.lit .nilFunc] }
theorem lay62 : LayOk Tryd.prog 62 y62 := layFn (d := (Tryd.prog.underlying 62).getD .bool) (by kernel_rfl) (by kernel_rfl) (by kernel_rfl)
-- func([]api.Entry, []api.Entry) bool
abbrev y63 : Lay := { zero := [.lit .nilFunc] }
theorem lay63 : LayOk Tryd.prog 63 y63 := layFn (d := (Tryd.prog.underlying 63).getD .bool) (by kernel_rfl) (by kernel_rfl) (by kernel_rfl)
-- map[int]func(api.Entry)
abbrev y64 : Lay := { zero := [.lit (.map none)], fmt := some (false, [.lit .nilFunc]) }
theorem lay64 : LayOk Tryd.prog 64 y64 := layFm 3 66 1 (false, [.lit .nilFunc]) (.nilFunc) (by kernel_rfl) (by kernel_rfl) (by kernel_rfl) (by kernel_rfl) (by kernel_rfl) (by kernel_rfl) (fun h => by cases h) (fun _ => ⟨rfl, _, rfl⟩)
-- func() map[int]func(api.Entry)
abbrev y65 : Lay := { zero := [.lit .nilFunc] }
theorem lay65 : LayOk Tryd.prog 65 y65 := layFn (d := (Tryd.prog.underlying 65).getD .bool) (by kernel_rfl) (by kernel_rfl) (by kernel_rfl)
-- func(api.Entry)
abbrev y66 : Lay := { zero := [.lit .nilFunc] }
theorem lay66 : LayOk Tryd.prog 66 y66 := layFn (d := (Tryd.prog.underlying 66).getD .bool) (by kernel_rfl) (by kernel_rfl) (by kernel_rfl)
-- func([]int, int) []int
abbrev y68 : Lay := { zero := [.lit .nilFunc] }
theorem lay68 : LayOk Tryd.prog 68 y68 := layFn (d := (Tryd.prog.underlying 68).getD .bool) (by kernel_rfl) (by kernel_rfl) (by kernel_rfl)
-- func(int, int, int) bool
abbrev y69 : Lay := { zero := [.lit .nilFunc] }
theorem lay69 : LayOk Tryd.prog 69 y69 := layFn (d := (Tryd.prog.underlying 69).getD .bool) (by kernel_rfl) (by kernel_rfl) (by kernel_rfl)
-- [][]int
abbrev y70 : Lay := { zero := [.sl (.tl (.ti .i64)) []], el := some 1, ety := some (.tl (.ti .i64), 28, 24) }
theorem lay70 : LayOk Tryd.prog 70 y70 := laySlice 28 (.tl (.ti .i64)) 24 (by kernel_rfl) (by kernel_rfl) (by kernel_rfl) (by decide) (by decide)
-- func(api.Entry) []int
abbrev y71 : Lay := { zero := [.lit .nilFunc] }
theorem lay71 : LayOk Tryd.prog 71 y71 := layFn (d := (Tryd.prog.underlying 71).getD .bool) (by kernel_rfl) (by kernel_rfl) (by kernel_rfl)
-- func([][]int) uint64
abbrev y72 : Lay := { zero := [.lit .nilFunc] }
theorem lay72 : LayOk Tryd.prog 72 y72 := layFn (d := (Tryd.prog.underlying 72).getD .bool) (by kernel_rfl) (by kernel_rfl) (by kernel_rfl)
-- [2]int
abbrev y73 : Lay := { size := 2, agg := true, zero := [.lit (.int .i64 0), .lit (.int .i64 0)], ars := some (2, 3, 1) }
theorem lay73 : LayOk Tryd.prog 73 y73 := layArr (zs := [.int .i64 0, .int .i64 0]) (by kernel_rfl) (by kernel_rfl) (by kernel_rfl) (by kernel_rfl)
-- [3][2]int
abbrev y74 : Lay := { size := 6, agg := true, zero := [.lit (.int .i64 0), .lit (.int .i64 0), .lit (.int .i64 0), .lit (.int .i64 0), .lit (.int .i64 0), .lit (.int .i64 0)], ars := some (3, 73, 2) }
theorem lay74 : LayOk Tryd.prog 74 y74 := layArr (zs := [.int .i64 0, .int .i64 0, .int .i64 0, .int .i64 0, .int .i64 0, .int .i64 0]) (by kernel_rfl) (by kernel_rfl) (by kernel_rfl) (by kernel_rfl)
-- struct { numbers [3][2]int; digest bool }
abbrev y75 : Lay := { size := 7, agg := true, zero := [.lit (.int .i64 0), .lit (.int .i64 0), .lit (.int .i64 0), .lit (.int .i64 0), .lit (.int .i64 0), .lit (.int .i64 0), .lit (.bool false)], fs := [(0, 6), (6, 1)], eqs := none }
theorem lay75 : LayOk Tryd.prog 75 y75 := layStruct (zs := [.int .i64 0, .int .i64 0, .int .i64 0, .int .i64 0, .int .i64 0, .int .i64 0, .bool false]) (by kernel_rfl) rfl (by kernel_rfl) (by kernel_rfl) (by decide) (fun ks h => by cases h)
-- seal.limits
abbrev y76 : Lay := { size := 7, agg := true, zero := [.lit (.int .i64 0), .lit (.int .i64 0), .lit (.int .i64 0), .lit (.int .i64 0), .lit (.int .i64 0), .lit (.int .i64 0), .lit (.bool false)], fs := [(0, 6), (6, 1)], eqs := none }
theorem lay76 : LayOk Tryd.prog 76 y76 := layStruct (zs := [.int .i64 0, .int .i64 0, .int .i64 0, .int .i64 0, .int .i64 0, .int .i64 0, .bool false]) (by kernel_rfl) rfl (by kernel_rfl) (by kernel_rfl) (by decide) (fun ks h => by cases h)
-- map[int]seal.limits
abbrev y78 : Lay := { zero := [.lit (.map none)], mpt := some (.ti .i64, .tp (.tp (.tp (.ti .i64) (.ti .i64)) (.tp (.tp (.ti .i64) (.ti .i64)) (.tp (.ti .i64) (.ti .i64)))) (.tb)) }
theorem lay78 : LayOk Tryd.prog 78 y78 := layMap 3 76 (.ti .i64) (.tp (.tp (.tp (.ti .i64) (.ti .i64)) (.tp (.tp (.ti .i64) (.ti .i64)) (.tp (.ti .i64) (.ti .i64)))) (.tb)) (.agg #[.int .i64 0, .int .i64 0, .int .i64 0, .int .i64 0, .int .i64 0, .int .i64 0, .bool false]) (by kernel_rfl) (by kernel_rfl) (by kernel_rfl) (by kernel_rfl) (by kernel_rfl) (by kernel_rfl) (by kernel_rfl) (fun _ => ⟨_, rfl⟩) (fun h => by cases h)
-- func() map[int]seal.limits
abbrev y79 : Lay := { zero := [.lit .nilFunc] }
theorem lay79 : LayOk Tryd.prog 79 y79 := layFn (d := (Tryd.prog.underlying 79).getD .bool) (by kernel_rfl) (by kernel_rfl) (by kernel_rfl)
-- [3]int
abbrev y80 : Lay := { size := 3, agg := true, zero := [.lit (.int .i64 0), .lit (.int .i64 0), .lit (.int .i64 0)], ars := some (3, 3, 1) }
theorem lay80 : LayOk Tryd.prog 80 y80 := layArr (zs := [.int .i64 0, .int .i64 0, .int .i64 0]) (by kernel_rfl) (by kernel_rfl) (by kernel_rfl) (by kernel_rfl)
-- uint
abbrev y81 : Lay := { zero := [.lit (.int .u64 0)], kind := some .u64 }
theorem lay81 : LayOk Tryd.prog 81 y81 := layInt .u64 (by kernel_rfl) (by kernel_rfl)
-- func([]uint8) uint64
abbrev y82 : Lay := { zero := [.lit .nilFunc] }
theorem lay82 : LayOk Tryd.prog 82 y82 := layFn (d := (Tryd.prog.underlying 82).getD .bool) (by kernel_rfl) (by kernel_rfl) (by kernel_rfl)
-- func(uint64, []int) uint64
abbrev y83 : Lay := { zero := [.lit .nilFunc] }
theorem lay83 : LayOk Tryd.prog 83 y83 := layFn (d := (Tryd.prog.underlying 83).getD .bool) (by kernel_rfl) (by kernel_rfl) (by kernel_rfl)
-- func(uint64, ...int) uint64
abbrev y84 : Lay := { zero := [.lit .nilFunc] }
theorem lay84 : LayOk Tryd.prog 84 y84 := layFn (d := (Tryd.prog.underlying 84).getD .bool) (by kernel_rfl) (by kernel_rfl) (by kernel_rfl)
-- func([]int, int) (int, bool)
abbrev y86 : Lay := { zero := [.lit .nilFunc] }
theorem lay86 : LayOk Tryd.prog 86 y86 := layFn (d := (Tryd.prog.underlying 86).getD .bool) (by kernel_rfl) (by kernel_rfl) (by kernel_rfl)
-- func([]int, int, ...int) []int
abbrev y87 : Lay := { zero := [.lit .nilFunc] }
theorem lay87 : LayOk Tryd.prog 87 y87 := layFn (d := (Tryd.prog.underlying 87).getD .bool) (by kernel_rfl) (by kernel_rfl) (by kernel_rfl)
-- func([]int) []int
abbrev y88 : Lay := { zero := [.lit .nilFunc] }
theorem lay88 : LayOk Tryd.prog 88 y88 := layFn (d := (Tryd.prog.underlying 88).getD .bool) (by kernel_rfl) (by kernel_rfl) (by kernel_rfl)
-- []uint8
abbrev y89 : Lay := { zero := [.sl (.ti .u8) []], el := some 1, ety := some (.ti .u8, 5, 1), sk := 2 }
theorem lay89 : LayOk Tryd.prog 89 y89 := laySk 2 (laySlice 5 (.ti .u8) 1 (by kernel_rfl) (by kernel_rfl) (by kernel_rfl) (by decide) (by decide)) (sk2 5 (by kernel_rfl) (by kernel_rfl))
-- func(uint64, []int) []uint8
abbrev y90 : Lay := { zero := [.lit .nilFunc] }
theorem lay90 : LayOk Tryd.prog 90 y90 := layFn (d := (Tryd.prog.underlying 90).getD .bool) (by kernel_rfl) (by kernel_rfl) (by kernel_rfl)
-- func(...uint8)
abbrev y91 : Lay := { zero := [.lit .nilFunc] }
theorem lay91 : LayOk Tryd.prog 91 y91 := layFn (d := (Tryd.prog.underlying 91).getD .bool) (by kernel_rfl) (by kernel_rfl) (by kernel_rfl)
-- func() (func(...uint8), func() uint64)
abbrev y93 : Lay := { zero := [.lit .nilFunc] }
theorem lay93 : LayOk Tryd.prog 93 y93 := layFn (d := (Tryd.prog.underlying 93).getD .bool) (by kernel_rfl) (by kernel_rfl) (by kernel_rfl)
-- func(int) string
abbrev y94 : Lay := { zero := [.lit .nilFunc] }
theorem lay94 : LayOk Tryd.prog 94 y94 := layFn (d := (Tryd.prog.underlying 94).getD .bool) (by kernel_rfl) (by kernel_rfl) (by kernel_rfl)
-- func(int, int) bool
abbrev y95 : Lay := { zero := [.lit .nilFunc] }
theorem lay95 : LayOk Tryd.prog 95 y95 := layFn (d := (Tryd.prog.underlying 95).getD .bool) (by kernel_rfl) (by kernel_rfl) (by kernel_rfl)
-- func([]int, int)
abbrev y96 : Lay := { zero := [.lit .nilFunc] }
theorem lay96 : LayOk Tryd.prog 96 y96 := layFn (d := (Tryd.prog.underlying 96).getD .bool) (by kernel_rfl) (by kernel_rfl) (by kernel_rfl)
-- func(int64, int) string
abbrev y97 : Lay := { zero := [.lit .nilFunc] }
theorem lay97 : LayOk Tryd.prog 97 y97 := layFn (d := (Tryd.prog.underlying 97).getD .bool) (by kernel_rfl) (by kernel_rfl) (by kernel_rfl)
-- func([]int)
abbrev y98 : Lay := { zero := [.lit .nilFunc] }
theorem lay98 : LayOk Tryd.prog 98 y98 := layFn (d := (Tryd.prog.underlying 98).getD .bool) (by kernel_rfl) (by kernel_rfl) (by kernel_rfl)
-- [24]uint8
abbrev y99 : Lay := { size := 24, agg := true, zero := [.lit (.int .u8 0), .lit (.int .u8 0), .lit (.int .u8 0), .lit (.int .u8 0), .lit (.int .u8 0), .lit (.int .u8 0), .lit (.int .u8 0), .lit (.int .u8 0), .lit (.int .u8 0), .lit (.int .u8 0), .lit (.int .u8 0), .lit (.int .u8 0), .lit (.int .u8 0), .lit (.int .u8 0), .lit (.int .u8 0), .lit (.int .u8 0), .lit (.int .u8 0), .lit (.int .u8 0), .lit (.int .u8 0), .lit (.int .u8 0), .lit (.int .u8 0), .lit (.int .u8 0), .lit (.int .u8 0), .lit (.int .u8 0)], ars := some (24, 5, 1) }
theorem lay99 : LayOk Tryd.prog 99 y99 := layArr (zs := [.int .u8 0, .int .u8 0, .int .u8 0, .int .u8 0, .int .u8 0, .int .u8 0, .int .u8 0, .int .u8 0, .int .u8 0, .int .u8 0, .int .u8 0, .int .u8 0, .int .u8 0, .int .u8 0, .int .u8 0, .int .u8 0, .int .u8 0, .int .u8 0, .int .u8 0, .int .u8 0, .int .u8 0, .int .u8 0, .int .u8 0, .int .u8 0]) (by kernel_rfl) (by kernel_rfl) (by kernel_rfl) (by kernel_rfl)
-- func(uint64) int
abbrev y100 : Lay := { zero := [.lit .nilFunc] }
theorem lay100 : LayOk Tryd.prog 100 y100 := layFn (d := (Tryd.prog.underlying 100).getD .bool) (by kernel_rfl) (by kernel_rfl) (by kernel_rfl)
-- func([]uint8, uint64)
abbrev y101 : Lay := { zero := [.lit .nilFunc] }
theorem lay101 : LayOk Tryd.prog 101 y101 := layFn (d := (Tryd.prog.underlying 101).getD .bool) (by kernel_rfl) (by kernel_rfl) (by kernel_rfl)
-- func([]uint8, uint64, int, bool, bool) ([]uint8, string)
abbrev y103 : Lay := { zero := [.lit .nilFunc] }
theorem lay103 : LayOk Tryd.prog 103 y103 := layFn (d := (Tryd.prog.underlying 103).getD .bool) (by kernel_rfl) (by kernel_rfl) (by kernel_rfl)
-- func(int) int
abbrev y104 : Lay := { zero := [.lit .nilFunc] }
theorem lay104 : LayOk Tryd.prog 104 y104 := layFn (d := (Tryd.prog.underlying 104).getD .bool) (by kernel_rfl) (by kernel_rfl) (by kernel_rfl)
-- func(bool) int
abbrev y105 : Lay := { zero := [.lit .nilFunc] }
theorem lay105 : LayOk Tryd.prog 105 y105 := layFn (d := (Tryd.prog.underlying 105).getD .bool) (by kernel_rfl) (by kernel_rfl) (by kernel_rfl)
-- [20]uint64
abbrev y106 : Lay := { size := 20, agg := true, zero := [.lit (.int .u64 0), .lit (.int .u64 0), .lit (.int .u64 0), .lit (.int .u64 0), .lit (.int .u64 0), .lit (.int .u64 0), .lit (.int .u64 0), .lit (.int .u64 0), .lit (.int .u64 0), .lit (.int .u64 0), .lit (.int .u64 0), .lit (.int .u64 0), .lit (.int .u64 0), .lit (.int .u64 0), .lit (.int .u64 0), .lit (.int .u64 0), .lit (.int .u64 0), .lit (.int .u64 0), .lit (.int .u64 0), .lit (.int .u64 0)], ars := some (20, 23, 1) }
theorem lay106 : LayOk Tryd.prog 106 y106 := layArr (zs := [.int .u64 0, .int .u64 0, .int .u64 0, .int .u64 0, .int .u64 0, .int .u64 0, .int .u64 0, .int .u64 0, .int .u64 0, .int .u64 0, .int .u64 0, .int .u64 0, .int .u64 0, .int .u64 0, .int .u64 0, .int .u64 0, .int .u64 0, .int .u64 0, .int .u64 0, .int .u64 0]) (by kernel_rfl) (by kernel_rfl) (by kernel_rfl) (by kernel_rfl)
-- uint32
abbrev y107 : Lay := { zero := [.lit (.int .u32 0)], kind := some .u32 }
theorem lay107 : LayOk Tryd.prog 107 y107 := layInt .u32 (by kernel_rfl) (by kernel_rfl)
-- func(uint) int
abbrev y109 : Lay := { zero := [.lit .nilFunc] }
theorem lay109 : LayOk Tryd.prog 109 y109 := layFn (d := (Tryd.prog.underlying 109).getD .bool) (by kernel_rfl) (by kernel_rfl) (by kernel_rfl)
-- func(uint32) int
abbrev y110 : Lay := { zero := [.lit .nilFunc] }
theorem lay110 : LayOk Tryd.prog 110 y110 := layFn (d := (Tryd.prog.underlying 110).getD .bool) (by kernel_rfl) (by kernel_rfl) (by kernel_rfl)
-- [32]uint8
abbrev y111 : Lay := { size := 32, agg := true, zero := [.lit (.int .u8 0), .lit (.int .u8 0), .lit (.int .u8 0), .lit (.int .u8 0), .lit (.int .u8 0), .lit (.int .u8 0), .lit (.int .u8 0), .lit (.int .u8 0), .lit (.int .u8 0), .lit (.int .u8 0), .lit (.int .u8 0), .lit (.int .u8 0), .lit (.int .u8 0), .lit (.int .u8 0), .lit (.int .u8 0), .lit (.int .u8 0), .lit (.int .u8 0), .lit (.int .u8 0), .lit (.int .u8 0), .lit (.int .u8 0), .lit (.int .u8 0), .lit (.int .u8 0), .lit (.int .u8 0), .lit (.int .u8 0), .lit (.int .u8 0), .lit (.int .u8 0), .lit (.int .u8 0), .lit (.int .u8 0), .lit (.int .u8 0), .lit (.int .u8 0), .lit (.int .u8 0), .lit (.int .u8 0)], ars := some (32, 5, 1) }
theorem lay111 : LayOk Tryd.prog 111 y111 := layArr (zs := [.int .u8 0, .int .u8 0, .int .u8 0, .int .u8 0, .int .u8 0, .int .u8 0, .int .u8 0, .int .u8 0, .int .u8 0, .int .u8 0, .int .u8 0, .int .u8 0, .int .u8 0, .int .u8 0, .int .u8 0, .int .u8 0, .int .u8 0, .int .u8 0, .int .u8 0, .int .u8 0, .int .u8 0, .int .u8 0, .int .u8 0, .int .u8 0, .int .u8 0, .int .u8 0, .int .u8 0, .int .u8 0, .int .u8 0, .int .u8 0, .int .u8 0, .int .u8 0]) (by kernel_rfl) (by kernel_rfl) (by kernel_rfl) (by kernel_rfl)
-- [64]uint8
abbrev y112 : Lay := { size := 64, agg := true, zero := [.lit (.int .u8 0), .lit (.int .u8 0), .lit (.int .u8 0), .lit (.int .u8 0), .lit (.int .u8 0), .lit (.int .u8 0), .lit (.int .u8 0), .lit (.int .u8 0), .lit (.int .u8 0), .lit (.int .u8 0), .lit (.int .u8 0), .lit (.int .u8 0), .lit (.int .u8 0), .lit (.int .u8 0), .lit (.int .u8 0), .lit (.int .u8 0), .lit (.int .u8 0), .lit (.int .u8 0), .lit (.int .u8 0), .lit (.int .u8 0), .lit (.int .u8 0), .lit (.int .u8 0), .lit (.int .u8 0), .lit (.int .u8 0), .lit (.int .u8 0), .lit (.int .u8 0), .lit (.int .u8 0), .lit (.int .u8 0), .lit (.int .u8 0), .lit (.int .u8 0), .lit (.int .u8 0), .lit (.int .u8 0), .lit (.int .u8 0), .lit (.int .u8 0), .lit (.int .u8 0), .lit (.int .u8 0), .lit (.int .u8 0), .lit (.int .u8 0), .lit (.int .u8 0), .lit (.int .u8 0), .lit (.int .u8 0), .lit (.int .u8 0), .lit (.int .u8 0), .lit (.int .u8 0), .lit (.int .u8 0), .lit (.int .u8 0), .lit (.int .u8 0), .lit (.int .u8 0), .lit (.int .u8 0), .lit (.int .u8 0), .lit (.int .u8 0), .lit (.int .u8 0), .lit (.int .u8 0), .lit (.int .u8 0), .lit (.int .u8 0), .lit (.int .u8 0), .lit (.int .u8 0), .lit (.int .u8 0), .lit (.int .u8 0), .lit (.int .u8 0), .lit (.int .u8 0), .lit (.int .u8 0), .lit (.int .u8 0), .lit (.int .u8 0)], ars := some (64, 5, 1) }
theorem lay112 : LayOk Tryd.prog 112 y112 := layArr (zs := [.int .u8 0, .int .u8 0, .int .u8 0, .int .u8 0, .int .u8 0, .int .u8 0, .int .u8 0, .int .u8 0, .int .u8 0, .int .u8 0, .int .u8 0, .int .u8 0, .int .u8 0, .int .u8 0, .int .u8 0, .int .u8 0, .int .u8 0, .int .u8 0, .int .u8 0, .int .u8 0, .int .u8 0, .int .u8 0, .int .u8 0, .int .u8 0, .int .u8 0, .int .u8 0, .int .u8 0, .int .u8 0, .int .u8 0, .int .u8 0, .int .u8 0, .int .u8 0, .int .u8 0, .int .u8 0, .int .u8 0, .int .u8 0, .int .u8 0, .int .u8 0, .int .u8 0, .int .u8 0, .int .u8 0, .int .u8 0, .int .u8 0, .int .u8 0, .int .u8 0, .int .u8 0, .int .u8 0, .int .u8 0, .int .u8 0, .int .u8 0, .int .u8 0, .int .u8 0, .int .u8 0, .int .u8 0, .int .u8 0, .int .u8 0, .int .u8 0, .int .u8 0, .int .u8 0, .int .u8 0, .int .u8 0, .int .u8 0, .int .u8 0, .int .u8 0]) (by kernel_rfl) (by kernel_rfl) (by kernel_rfl) (by kernel_rfl)
-- func() string
abbrev y113 : Lay := { zero := [.lit .nilFunc] }
theorem lay113 : LayOk Tryd.prog 113 y113 := layFn (d := (Tryd.prog.underlying 113).getD .bool) (by kernel_rfl) (by kernel_rfl) (by kernel_rfl)
-- func() int
abbrev y119 : Lay := { zero := [.lit .nilFunc] }
theorem lay119 : LayOk Tryd.prog 119 y119 := layFn (d := (Tryd.prog.underlying 119).getD .bool) (by kernel_rfl) (by kernel_rfl) (by kernel_rfl)
-- func(unsafe.Pointer, unsafe.Pointer) bool
abbrev y122 : Lay := { zero := [.lit .nilFunc] }
theorem lay122 : LayOk Tryd.prog 122 y122 := layFn (d := (Tryd.prog.underlying 122).getD .bool) (by kernel_rfl) (by kernel_rfl) (by kernel_rfl)
-- *uint8
abbrev y123 : Lay := { zero := [.lit (.pointer none)] }
theorem lay123 : LayOk Tryd.prog 123 y123 := layOne (d := (Tryd.prog.underlying 123).getD .bool) (z := .pointer none) (k := none) (by kernel_rfl) (by kernel_rfl) (by kernel_rfl) (fun _ _ => .lit rfl) (fun q h => by cases h)
def L0 : Nat → Option Lay := Sy.look [(1, y1), (2, y2), (3, y3), (4, y4), (5, y5), (9, y9), (12, y12), (21, y21), (22, y22), (23, y23), (24, y24), (25, y25), (26, y26), (27, y27), (28, y28), (29, y29), (30, y30), (31, y31), (33, y33), (34, y34), (36, y36), (37, y37), (38, y38), (39, y39), (40, y40), (42, y42), (43, y43), (44, y44), (45, y45), (47, y47), (48, y48), (49, y49), (50, y50), (51, y51), (52, y52), (53, y53), (54, y54), (55, y55), (56, y56), (57, y57), (58, y58), (59, y59), (60, y60), (61, y61), (62, y62), (63, y63), (64, y64), (65, y65), (66, y66), (68, y68), (69, y69), (70, y70), (71, y71), (72, y72), (73, y73), (74, y74), (75, y75), (76, y76), (78, y78), (79, y79), (80, y80), (81, y81), (82, y82), (83, y83), (84, y84), (86, y86), (87, y87), (88, y88), (89, y89), (90, y90), (91, y91), (93, y93), (94, y94), (95, y95), (96, y96), (97, y97), (98, y98), (99, y99), (100, y100), (101, y101), (103, y103), (104, y104), (105, y105), (106, y106), (107, y107), (109, y109), (110, y110), (111, y111), (112, y112), (113, y113), (119, y119), (122, y122), (123, y123)]
theorem L0_ok : LOk Tryd.prog L0 := by
  refine look_ok fun q hq => ?_
  simp only [List.mem_cons, List.not_mem_nil, or_false] at hq
  rcases hq with rfl | rfl | rfl | rfl | rfl | rfl | rfl | rfl | rfl | rfl | rfl | rfl | rfl | rfl | rfl | rfl | rfl | rfl | rfl | rfl | rfl | rfl | rfl | rfl | rfl | rfl | rfl | rfl | rfl | rfl | rfl | rfl | rfl | rfl | rfl | rfl | rfl | rfl | rfl | rfl | rfl | rfl | rfl | rfl | rfl | rfl | rfl | rfl | rfl | rfl | rfl | rfl | rfl | rfl | rfl | rfl | rfl | rfl | rfl | rfl | rfl | rfl | rfl | rfl | rfl | rfl | rfl | rfl | rfl | rfl | rfl | rfl | rfl | rfl | rfl | rfl | rfl | rfl | rfl | rfl | rfl | rfl | rfl | rfl | rfl | rfl | rfl | rfl | rfl | rfl | rfl | rfl | rfl
  · exact lay1
  · exact lay2
  · exact lay3
  · exact lay4
  · exact lay5
  · exact lay9
  · exact lay12
  · exact lay21
  · exact lay22
  · exact lay23
  · exact lay24
  · exact lay25
  · exact lay26
  · exact lay27
  · exact lay28
  · exact lay29
  · exact lay30
  · exact lay31
  · exact lay33
  · exact lay34
  · exact lay36
  · exact lay37
  · exact lay38
  · exact lay39
  · exact lay40
  · exact lay42
  · exact lay43
  · exact lay44
  · exact lay45
  · exact lay47
  · exact lay48
  · exact lay49
  · exact lay50
  · exact lay51
  · exact lay52
  · exact lay53
  · exact lay54
  · exact lay55
  · exact lay56
  · exact lay57
  · exact lay58
  · exact lay59
  · exact lay60
  · exact lay61
  · exact lay62
  · exact lay63
  · exact lay64
  · exact lay65
  · exact lay66
  · exact lay68
  · exact lay69
  · exact lay70
  · exact lay71
  · exact lay72
  · exact lay73
  · exact lay74
  · exact lay75
  · exact lay76
  · exact lay78
  · exact lay79
  · exact lay80
  · exact lay81
  · exact lay82
  · exact lay83
  · exact lay84
  · exact lay86
  · exact lay87
  · exact lay88
  · exact lay89
  · exact lay90
  · exact lay91
  · exact lay93
  · exact lay94
  · exact lay95
  · exact lay96
  · exact lay97
  · exact lay98
  · exact lay99
  · exact lay100
  · exact lay101
  · exact lay103
  · exact lay104
  · exact lay105
  · exact lay106
  · exact lay107
  · exact lay109
  · exact lay110
  · exact lay111
  · exact lay112
  · exact lay113
  · exact lay119
  · exact lay122
  · exact lay123
def LV (os vs : List Nat) (wr : Bool) : Nat → Option Lay := LVar L0 os vs wr
theorem LV_ok (os vs : List Nat) (wr : Bool) : LOk Tryd.prog (LV os vs wr) := LVar_ok L0_ok os vs wr
def L : Nat → Option Lay := LV [] [] false
theorem L_ok : LOk Tryd.prog L := LV_ok [] [] false
theorem mixed : Tryd.prog.follows .mixedOrders = true := by kernel_rfl
end Go.Proofs.YtfbbkknfcmofcaaDoor
