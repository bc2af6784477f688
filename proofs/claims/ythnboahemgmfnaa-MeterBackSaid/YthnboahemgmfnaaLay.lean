/- The layouts of this seat's types, each proved by closed facts off the loaded program. Written by a program (wip/tools/lay.py). -/
import Derived.Test.YthnboahemgmfnaaSyX
import Derived.Test.YthnboahemgmfnaaProg
namespace Go.Proofs.Ythnboahemgmfnaa
open Go.Sy
set_option linter.unusedVariables false
-- func()
abbrev y1 : Lay := { zero := [.lit .nilFunc] }
theorem lay1 : LayOk Try.prog 1 y1 := layFn (d := (Try.prog.underlying 1).getD .bool) (by kernel_rfl) (by kernel_rfl) (by kernel_rfl)
-- int64
abbrev y2 : Lay := { zero := [.lit (.int .i64 0)], kind := some .i64 }
theorem lay2 : LayOk Try.prog 2 y2 := layInt .i64 (by kernel_rfl) (by kernel_rfl)
-- int
abbrev y3 : Lay := { zero := [.lit (.int .i64 0)], kind := some .i64 }
theorem lay3 : LayOk Try.prog 3 y3 := layInt .i64 (by kernel_rfl) (by kernel_rfl)
-- bool
abbrev y4 : Lay := { zero := [.lit (.bool false)], eqs := some [.b] }
theorem lay4 : LayOk Try.prog 4 y4 := layBool (by kernel_rfl) (by kernel_rfl) (by kernel_rfl)
-- uint8
abbrev y5 : Lay := { zero := [.lit (.int .u8 0)], kind := some .u8 }
theorem lay5 : LayOk Try.prog 5 y5 := layInt .u8 (by kernel_rfl) (by kernel_rfl)
-- string
abbrev y9 : Lay := { zero := [.lit (.string ByteArray.empty)] }
theorem lay9 : LayOk Try.prog 9 y9 := layStr (by kernel_rfl) (by kernel_rfl)
-- uintptr
abbrev y12 : Lay := { zero := [.lit (.int .u64 0)], kind := some .u64 }
theorem lay12 : LayOk Try.prog 12 y12 := layInt .u64 (by kernel_rfl) (by kernel_rfl)
-- int32
abbrev y21 : Lay := { zero := [.lit (.int .i32 0)], kind := some .i32 }
theorem lay21 : LayOk Try.prog 21 y21 := layInt .i32 (by kernel_rfl) (by kernel_rfl)
-- []api.Bar
abbrev y22 : Lay := { zero := [.sl (.tp (.ti .i64) (.tp (.tp (.ti .i64) (.ti .i64)) (.ti .i64))) []], el := some 4, ety := some (.tp (.ti .i64) (.tp (.tp (.ti .i64) (.ti .i64)) (.ti .i64)), 45, 32) }
theorem lay22 : LayOk Try.prog 22 y22 := laySlice 45 (.tp (.ti .i64) (.tp (.tp (.ti .i64) (.ti .i64)) (.ti .i64))) 32 (by kernel_rfl) (by kernel_rfl) (by kernel_rfl) (by decide) (by decide)
-- struct { N int; D int }
abbrev y23 : Lay := { size := 2, agg := true, zero := [.lit (.int .i64 0), .lit (.int .i64 0)], fs := [(0, 1), (1, 1)], eqs := some [.i, .i] }
theorem lay23 : LayOk Try.prog 23 y23 := layStruct (zs := [.int .i64 0, .int .i64 0]) (by kernel_rfl) rfl (by kernel_rfl) (by kernel_rfl) (by decide) (fun ks h => by injection h with h; subst h; exact ⟨by kernel_rfl, by kernel_rfl⟩)
-- api.Rat
abbrev y24 : Lay := { size := 2, agg := true, zero := [.lit (.int .i64 0), .lit (.int .i64 0)], fs := [(0, 1), (1, 1)], eqs := some [.i, .i] }
theorem lay24 : LayOk Try.prog 24 y24 := layStruct (zs := [.int .i64 0, .int .i64 0]) (by kernel_rfl) rfl (by kernel_rfl) (by kernel_rfl) (by decide) (fun ks h => by injection h with h; subst h; exact ⟨by kernel_rfl, by kernel_rfl⟩)
-- struct { Bar int; At api.Rat }
abbrev y25 : Lay := { size := 3, agg := true, zero := [.lit (.int .i64 0), .lit (.int .i64 0), .lit (.int .i64 0)], fs := [(0, 1), (1, 2)], eqs := some [.i, .i, .i] }
theorem lay25 : LayOk Try.prog 25 y25 := layStruct (zs := [.int .i64 0, .int .i64 0, .int .i64 0]) (by kernel_rfl) rfl (by kernel_rfl) (by kernel_rfl) (by decide) (fun ks h => by injection h with h; subst h; exact ⟨by kernel_rfl, by kernel_rfl⟩)
-- api.Position
abbrev y26 : Lay := { size := 3, agg := true, zero := [.lit (.int .i64 0), .lit (.int .i64 0), .lit (.int .i64 0)], fs := [(0, 1), (1, 2)], eqs := some [.i, .i, .i] }
theorem lay26 : LayOk Try.prog 26 y26 := layStruct (zs := [.int .i64 0, .int .i64 0, .int .i64 0]) (by kernel_rfl) rfl (by kernel_rfl) (by kernel_rfl) (by decide) (fun ks h => by injection h with h; subst h; exact ⟨by kernel_rfl, by kernel_rfl⟩)
-- func() bool
abbrev y27 : Lay := { zero := [.lit .nilFunc] }
theorem lay27 : LayOk Try.prog 27 y27 := layFn (d := (Try.prog.underlying 27).getD .bool) (by kernel_rfl) (by kernel_rfl) (by kernel_rfl)
-- func([]api.Bar) bool
abbrev y28 : Lay := { zero := [.lit .nilFunc] }
theorem lay28 : LayOk Try.prog 28 y28 := layFn (d := (Try.prog.underlying 28).getD .bool) (by kernel_rfl) (by kernel_rfl) (by kernel_rfl)
-- api.Errno
abbrev y29 : Lay := { zero := [.lit (.int .i64 0)], kind := some .i64 }
theorem lay29 : LayOk Try.prog 29 y29 := layInt .i64 (by kernel_rfl) (by kernel_rfl)
-- func([]api.Bar) (api.Rat, api.Errno)
abbrev y31 : Lay := { zero := [.lit .nilFunc] }
theorem lay31 : LayOk Try.prog 31 y31 := layFn (d := (Try.prog.underlying 31).getD .bool) (by kernel_rfl) (by kernel_rfl) (by kernel_rfl)
-- func([]api.Bar, api.Position) (api.Rat, api.Errno)
abbrev y32 : Lay := { zero := [.lit .nilFunc] }
theorem lay32 : LayOk Try.prog 32 y32 := layFn (d := (Try.prog.underlying 32).getD .bool) (by kernel_rfl) (by kernel_rfl) (by kernel_rfl)
-- func([]api.Bar, api.Rat) (api.Position, api.Errno)
abbrev y34 : Lay := { zero := [.lit .nilFunc] }
theorem lay34 : LayOk Try.prog 34 y34 := layFn (d := (Try.prog.underlying 34).getD .bool) (by kernel_rfl) (by kernel_rfl) (by kernel_rfl)
-- func([]api.Bar, api.Position, api.Rat) (api.Position, api.Errno)
abbrev y35 : Lay := { zero := [.lit .nilFunc] }
theorem lay35 : LayOk Try.prog 35 y35 := layFn (d := (Try.prog.underlying 35).getD .bool) (by kernel_rfl) (by kernel_rfl) (by kernel_rfl)
-- func([]api.Bar, api.Position, api.Rat, api.Rat) bool
abbrev y36 : Lay := { zero := [.lit .nilFunc] }
theorem lay36 : LayOk Try.prog 36 y36 := layFn (d := (Try.prog.underlying 36).getD .bool) (by kernel_rfl) (by kernel_rfl) (by kernel_rfl)
-- func([]api.Bar, api.Position) bool
abbrev y37 : Lay := { zero := [.lit .nilFunc] }
theorem lay37 : LayOk Try.prog 37 y37 := layFn (d := (Try.prog.underlying 37).getD .bool) (by kernel_rfl) (by kernel_rfl) (by kernel_rfl)
-- func([]api.Bar, api.Position, api.Rat) bool
abbrev y38 : Lay := { zero := [.lit .nilFunc] }
theorem lay38 : LayOk Try.prog 38 y38 := layFn (d := (Try.prog.underlying 38).getD .bool) (by kernel_rfl) (by kernel_rfl) (by kernel_rfl)
-- func(api.Rat, api.Rat) (int, api.Errno)
abbrev y40 : Lay := { zero := [.lit .nilFunc] }
theorem lay40 : LayOk Try.prog 40 y40 := layFn (d := (Try.prog.underlying 40).getD .bool) (by kernel_rfl) (by kernel_rfl) (by kernel_rfl)
-- func([]api.Bar, api.Position, api.Position) bool
abbrev y41 : Lay := { zero := [.lit .nilFunc] }
theorem lay41 : LayOk Try.prog 41 y41 := layFn (d := (Try.prog.underlying 41).getD .bool) (by kernel_rfl) (by kernel_rfl) (by kernel_rfl)
-- func(int, int) api.Rat
abbrev y42 : Lay := { zero := [.lit .nilFunc] }
theorem lay42 : LayOk Try.prog 42 y42 := layFn (d := (Try.prog.underlying 42).getD .bool) (by kernel_rfl) (by kernel_rfl) (by kernel_rfl)
-- func(api.Rat, api.Rat) (api.Rat, api.Errno)
abbrev y43 : Lay := { zero := [.lit .nilFunc] }
theorem lay43 : LayOk Try.prog 43 y43 := layFn (d := (Try.prog.underlying 43).getD .bool) (by kernel_rfl) (by kernel_rfl) (by kernel_rfl)
-- struct { ID int; Length api.Rat; Key int }
abbrev y44 : Lay := { size := 4, agg := true, zero := [.lit (.int .i64 0), .lit (.int .i64 0), .lit (.int .i64 0), .lit (.int .i64 0)], fs := [(0, 1), (1, 2), (3, 1)], eqs := some [.i, .i, .i, .i] }
theorem lay44 : LayOk Try.prog 44 y44 := layStruct (zs := [.int .i64 0, .int .i64 0, .int .i64 0, .int .i64 0]) (by kernel_rfl) rfl (by kernel_rfl) (by kernel_rfl) (by decide) (fun ks h => by injection h with h; subst h; exact ⟨by kernel_rfl, by kernel_rfl⟩)
-- api.Bar
abbrev y45 : Lay := { size := 4, agg := true, zero := [.lit (.int .i64 0), .lit (.int .i64 0), .lit (.int .i64 0), .lit (.int .i64 0)], fs := [(0, 1), (1, 2), (3, 1)], eqs := some [.i, .i, .i, .i] }
theorem lay45 : LayOk Try.prog 45 y45 := layStruct (zs := [.int .i64 0, .int .i64 0, .int .i64 0, .int .i64 0]) (by kernel_rfl) rfl (by kernel_rfl) (by kernel_rfl) (by decide) (fun ks h => by injection h with h; subst h; exact ⟨by kernel_rfl, by kernel_rfl⟩)
-- func([]api.Bar, uint8, api.Position) bool
abbrev y46 : Lay := { zero := [.lit .nilFunc] }
theorem lay46 : LayOk Try.prog 46 y46 := layFn (d := (Try.prog.underlying 46).getD .bool) (by kernel_rfl) (by kernel_rfl) (by kernel_rfl)
-- func() []api.Bar
abbrev y47 : Lay := { zero := [.lit .nilFunc] }
theorem lay47 : LayOk Try.prog 47 y47 := layFn (d := (Try.prog.underlying 47).getD .bool) (by kernel_rfl) (by kernel_rfl) (by kernel_rfl)
-- func([]api.Bar, int) api.Rat
abbrev y48 : Lay := { zero := [.lit .nilFunc] }
theorem lay48 : LayOk Try.prog 48 y48 := layFn (d := (Try.prog.underlying 48).getD .bool) (by kernel_rfl) (by kernel_rfl) (by kernel_rfl)
-- func(int) api.Rat
abbrev y49 : Lay := { zero := [.lit .nilFunc] }
theorem lay49 : LayOk Try.prog 49 y49 := layFn (d := (Try.prog.underlying 49).getD .bool) (by kernel_rfl) (by kernel_rfl) (by kernel_rfl)
-- func([]api.Bar, int) int
abbrev y50 : Lay := { zero := [.lit .nilFunc] }
theorem lay50 : LayOk Try.prog 50 y50 := layFn (d := (Try.prog.underlying 50).getD .bool) (by kernel_rfl) (by kernel_rfl) (by kernel_rfl)
-- map[int]bool
abbrev y51 : Lay := { zero := [.lit (.map none)], mpt := some (.ti .i64, .tb) }
theorem lay51 : LayOk Try.prog 51 y51 := layMap 3 4 (.ti .i64) (.tb) (.bool false) (by kernel_rfl) (by kernel_rfl) (by kernel_rfl) (by kernel_rfl) (by kernel_rfl) (by kernel_rfl) (by kernel_rfl) (fun h => by cases h) (fun _ => rfl)
-- func(api.Rat) bool
abbrev y52 : Lay := { zero := [.lit .nilFunc] }
theorem lay52 : LayOk Try.prog 52 y52 := layFn (d := (Try.prog.underlying 52).getD .bool) (by kernel_rfl) (by kernel_rfl) (by kernel_rfl)
-- func(api.Rat, api.Rat) bool
abbrev y53 : Lay := { zero := [.lit .nilFunc] }
theorem lay53 : LayOk Try.prog 53 y53 := layFn (d := (Try.prog.underlying 53).getD .bool) (by kernel_rfl) (by kernel_rfl) (by kernel_rfl)
-- func(api.Rat) int
abbrev y54 : Lay := { zero := [.lit .nilFunc] }
theorem lay54 : LayOk Try.prog 54 y54 := layFn (d := (Try.prog.underlying 54).getD .bool) (by kernel_rfl) (by kernel_rfl) (by kernel_rfl)
-- func([]api.Bar, int) (api.Position, bool)
abbrev y56 : Lay := { zero := [.lit .nilFunc] }
theorem lay56 : LayOk Try.prog 56 y56 := layFn (d := (Try.prog.underlying 56).getD .bool) (by kernel_rfl) (by kernel_rfl) (by kernel_rfl)
-- func(api.Rat, api.Rat, func() ratio.fraction) (api.Rat, api.Errno)
abbrev y57 : Lay := { zero := [.lit .nilFunc] }
theorem lay57 : LayOk Try.prog 57 y57 := layFn (d := (Try.prog.underlying 57).getD .bool) (by kernel_rfl) (by kernel_rfl) (by kernel_rfl)
-- struct { n int; d int }
abbrev y58 : Lay := { size := 2, agg := true, zero := [.lit (.int .i64 0), .lit (.int .i64 0)], fs := [(0, 1), (1, 1)], eqs := some [.i, .i] }
theorem lay58 : LayOk Try.prog 58 y58 := layStruct (zs := [.int .i64 0, .int .i64 0]) (by kernel_rfl) rfl (by kernel_rfl) (by kernel_rfl) (by decide) (fun ks h => by injection h with h; subst h; exact ⟨by kernel_rfl, by kernel_rfl⟩)
-- ratio.fraction
abbrev y59 : Lay := { size := 2, agg := true, zero := [.lit (.int .i64 0), .lit (.int .i64 0)], fs := [(0, 1), (1, 1)], eqs := some [.i, .i] }
theorem lay59 : LayOk Try.prog 59 y59 := layStruct (zs := [.int .i64 0, .int .i64 0]) (by kernel_rfl) rfl (by kernel_rfl) (by kernel_rfl) (by decide) (fun ks h => by injection h with h; subst h; exact ⟨by kernel_rfl, by kernel_rfl⟩)
-- func() ratio.fraction
abbrev y60 : Lay := { zero := [.lit .nilFunc] }
theorem lay60 : LayOk Try.prog 60 y60 := layFn (d := (Try.prog.underlying 60).getD .bool) (by kernel_rfl) (by kernel_rfl) (by kernel_rfl)
-- func(func(int, api.Rat) bool)
abbrev y61 : Lay := { zero := [.lit .nilFunc] }
theorem lay61 : LayOk Try.prog 61 y61 := layFn (d := (Try.prog.underlying 61).getD .bool) (by kernel_rfl) (by kernel_rfl) (by kernel_rfl)
-- iter.Seq2[int,partbook.api.Rat]
abbrev y62 : Lay := { zero := [.lit .nilFunc] }
theorem lay62 : LayOk Try.prog 62 y62 := layFn (d := (Try.prog.underlying 62).getD .bool) (by kernel_rfl) (by kernel_rfl) (by kernel_rfl)
-- func([]api.Bar) iter.Seq2[int,partbook.api.Rat]
abbrev y63 : Lay := { zero := [.lit .nilFunc] }
theorem lay63 : LayOk Try.prog 63 y63 := layFn (d := (Try.prog.underlying 63).getD .bool) (by kernel_rfl) (by kernel_rfl) (by kernel_rfl)
-- func() api.Rat
abbrev y64 : Lay := { zero := [.lit .nilFunc] }
theorem lay64 : LayOk Try.prog 64 y64 := layFn (d := (Try.prog.underlying 64).getD .bool) (by kernel_rfl) (by kernel_rfl) (by kernel_rfl)
-- func(int, int) int
abbrev y65 : Lay := { zero := [.lit .nilFunc] }
theorem lay65 : LayOk Try.prog 65 y65 := layFn (d := (Try.prog.underlying 65).getD .bool) (by kernel_rfl) (by kernel_rfl) (by kernel_rfl)
-- func(ratio.fraction) ratio.fraction
abbrev y66 : Lay := { zero := [.lit .nilFunc] }
theorem lay66 : LayOk Try.prog 66 y66 := layFn (d := (Try.prog.underlying 66).getD .bool) (by kernel_rfl) (by kernel_rfl) (by kernel_rfl)
-- func() (api.Rat, api.Errno)
abbrev y67 : Lay := { zero := [.lit .nilFunc] }
theorem lay67 : LayOk Try.prog 67 y67 := layFn (d := (Try.prog.underlying 67).getD .bool) (by kernel_rfl) (by kernel_rfl) (by kernel_rfl)
-- func(int, api.Rat) bool
abbrev y68 : Lay := { zero := [.lit .nilFunc] }
theorem lay68 : LayOk Try.prog 68 y68 := layFn (d := (Try.prog.underlying 68).getD .bool) (by kernel_rfl) (by kernel_rfl) (by kernel_rfl)
-- func(int) int
abbrev y69 : Lay := { zero := [.lit .nilFunc] }
theorem lay69 : LayOk Try.prog 69 y69 := layFn (d := (Try.prog.underlying 69).getD .bool) (by kernel_rfl) (by kernel_rfl) (by kernel_rfl)
-- func() string
abbrev y70 : Lay := { zero := [.lit .nilFunc] }
theorem lay70 : LayOk Try.prog 70 y70 := layFn (d := (Try.prog.underlying 70).getD .bool) (by kernel_rfl) (by kernel_rfl) (by kernel_rfl)
-- func() int
abbrev y76 : Lay := { zero := [.lit .nilFunc] }
theorem lay76 : LayOk Try.prog 76 y76 := layFn (d := (Try.prog.underlying 76).getD .bool) (by kernel_rfl) (by kernel_rfl) (by kernel_rfl)
-- uint32
abbrev y77 : Lay := { zero := [.lit (.int .u32 0)], kind := some .u32 }
theorem lay77 : LayOk Try.prog 77 y77 := layInt .u32 (by kernel_rfl) (by kernel_rfl)
-- func(unsafe.Pointer, unsafe.Pointer) bool
abbrev y80 : Lay := { zero := [.lit .nilFunc] }
theorem lay80 : LayOk Try.prog 80 y80 := layFn (d := (Try.prog.underlying 80).getD .bool) (by kernel_rfl) (by kernel_rfl) (by kernel_rfl)
-- *uint8
abbrev y81 : Lay := { zero := [.lit (.pointer none)] }
theorem lay81 : LayOk Try.prog 81 y81 := layOne (d := (Try.prog.underlying 81).getD .bool) (z := .pointer none) (k := none) (by kernel_rfl) (by kernel_rfl) (by kernel_rfl) (fun _ _ => .lit rfl) (fun q h => by cases h)
def L : Nat → Option Lay := Sy.look [(1, y1), (2, y2), (3, y3), (4, y4), (5, y5), (9, y9), (12, y12), (21, y21), (22, y22), (23, y23), (24, y24), (25, y25), (26, y26), (27, y27), (28, y28), (29, y29), (31, y31), (32, y32), (34, y34), (35, y35), (36, y36), (37, y37), (38, y38), (40, y40), (41, y41), (42, y42), (43, y43), (44, y44), (45, y45), (46, y46), (47, y47), (48, y48), (49, y49), (50, y50), (51, y51), (52, y52), (53, y53), (54, y54), (56, y56), (57, y57), (58, y58), (59, y59), (60, y60), (61, y61), (62, y62), (63, y63), (64, y64), (65, y65), (66, y66), (67, y67), (68, y68), (69, y69), (70, y70), (76, y76), (77, y77), (80, y80), (81, y81)]
theorem L_ok : LOk Try.prog L := by
  refine look_ok fun q hq => ?_
  simp only [List.mem_cons, List.not_mem_nil, or_false] at hq
  rcases hq with rfl | rfl | rfl | rfl | rfl | rfl | rfl | rfl | rfl | rfl | rfl | rfl | rfl | rfl | rfl | rfl | rfl | rfl | rfl | rfl | rfl | rfl | rfl | rfl | rfl | rfl | rfl | rfl | rfl | rfl | rfl | rfl | rfl | rfl | rfl | rfl | rfl | rfl | rfl | rfl | rfl | rfl | rfl | rfl | rfl | rfl | rfl | rfl | rfl | rfl | rfl | rfl | rfl | rfl | rfl | rfl | rfl
  · exact lay1
  · exact lay2
  · exact lay3
  · exact lay4
  · exact lay5
  · exact lay9
  · exact lay12
  · exact lay21
  · exact lay22
  · exact lay23
  · exact lay24
  · exact lay25
  · exact lay26
  · exact lay27
  · exact lay28
  · exact lay29
  · exact lay31
  · exact lay32
  · exact lay34
  · exact lay35
  · exact lay36
  · exact lay37
  · exact lay38
  · exact lay40
  · exact lay41
  · exact lay42
  · exact lay43
  · exact lay44
  · exact lay45
  · exact lay46
  · exact lay47
  · exact lay48
  · exact lay49
  · exact lay50
  · exact lay51
  · exact lay52
  · exact lay53
  · exact lay54
  · exact lay56
  · exact lay57
  · exact lay58
  · exact lay59
  · exact lay60
  · exact lay61
  · exact lay62
  · exact lay63
  · exact lay64
  · exact lay65
  · exact lay66
  · exact lay67
  · exact lay68
  · exact lay69
  · exact lay70
  · exact lay76
  · exact lay77
  · exact lay80
  · exact lay81
theorem mixed : Try.prog.follows .mixedOrders = true := by kernel_rfl
end Go.Proofs.Ythnboahemgmfnaa
