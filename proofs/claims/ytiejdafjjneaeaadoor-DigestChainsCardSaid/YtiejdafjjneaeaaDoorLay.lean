/- The layouts of this seat's types, each proved by closed facts off the loaded program. Written by a program (wip/tools/lay.py). -/
import Derived.Test.YtiejdafjjneaeaaDoorSyX
import Derived.Test.YtiejdafjjneaeaaDoorProg
namespace Go.Proofs.YtiejdafjjneaeaaDoor
open Go.Sy
set_option linter.unusedVariables false
-- func()
abbrev y1 : Lay := { zero := [.lit .nilFunc] }
theorem lay1 : LayOk Tryd.prog 1 y1 := layFn (d := (Tryd.prog.underlying 1).getD .bool) (by kernel_rfl) (by kernel_rfl) (by kernel_rfl)
-- int64
abbrev y2 : Lay := { zero := [.lit (.int .i64 0)], kind := some .i64 }
theorem lay2 : LayOk Tryd.prog 2 y2 := layInt .i64 (by kernel_rfl) (by kernel_rfl)
-- int
abbrev y3 : Lay := { zero := [.lit (.int .i64 0)], kind := some .i64 }
theorem lay3 : LayOk Tryd.prog 3 y3 := layInt .i64 (by kernel_rfl) (by kernel_rfl)
-- bool
abbrev y4 : Lay := { zero := [.lit (.bool false)], eqs := some [.b] }
theorem lay4 : LayOk Tryd.prog 4 y4 := layBool (by kernel_rfl) (by kernel_rfl) (by kernel_rfl)
-- uint8
abbrev y5 : Lay := { zero := [.lit (.int .u8 0)], kind := some .u8 }
theorem lay5 : LayOk Tryd.prog 5 y5 := layInt .u8 (by kernel_rfl) (by kernel_rfl)
-- string
abbrev y9 : Lay := { zero := [.lit (.string ByteArray.empty)], sk := 1 }
theorem lay9 : LayOk Tryd.prog 9 y9 := laySk 1 (layStr (by kernel_rfl) (by kernel_rfl)) (sk1 (by kernel_rfl))
-- uintptr
abbrev y12 : Lay := { zero := [.lit (.int .u64 0)], kind := some .u64 }
theorem lay12 : LayOk Tryd.prog 12 y12 := layInt .u64 (by kernel_rfl) (by kernel_rfl)
-- int32
abbrev y21 : Lay := { zero := [.lit (.int .i32 0)], kind := some .i32 }
theorem lay21 : LayOk Tryd.prog 21 y21 := layInt .i32 (by kernel_rfl) (by kernel_rfl)
-- []uint8
abbrev y22 : Lay := { zero := [.sl (.ti .u8) []], el := some 1, ety := some (.ti .u8, 5, 1), sk := 2 }
theorem lay22 : LayOk Tryd.prog 22 y22 := laySk 2 (laySlice 5 (.ti .u8) 1 (by kernel_rfl) (by kernel_rfl) (by kernel_rfl) (by decide) (by decide)) (sk2 5 (by kernel_rfl) (by kernel_rfl))
-- uint64
abbrev y23 : Lay := { zero := [.lit (.int .u64 0)], kind := some .u64 }
theorem lay23 : LayOk Tryd.prog 23 y23 := layInt .u64 (by kernel_rfl) (by kernel_rfl)
-- []int
abbrev y24 : Lay := { zero := [.sl (.ti .i64) []], el := some 1, ety := some (.ti .i64, 3, 8) }
theorem lay24 : LayOk Tryd.prog 24 y24 := laySlice 3 (.ti .i64) 8 (by kernel_rfl) (by kernel_rfl) (by kernel_rfl) (by decide) (by decide)
-- [][]int
abbrev y25 : Lay := { zero := [.sl (.tl (.ti .i64)) []], el := some 1, ety := some (.tl (.ti .i64), 24, 24) }
theorem lay25 : LayOk Tryd.prog 25 y25 := laySlice 24 (.tl (.ti .i64)) 24 (by kernel_rfl) (by kernel_rfl) (by kernel_rfl) (by decide) (by decide)
-- func() bool
abbrev y26 : Lay := { zero := [.lit .nilFunc] }
theorem lay26 : LayOk Tryd.prog 26 y26 := layFn (d := (Tryd.prog.underlying 26).getD .bool) (by kernel_rfl) (by kernel_rfl) (by kernel_rfl)
-- func([][]int) bool
abbrev y27 : Lay := { zero := [.lit .nilFunc] }
theorem lay27 : LayOk Tryd.prog 27 y27 := layFn (d := (Tryd.prog.underlying 27).getD .bool) (by kernel_rfl) (by kernel_rfl) (by kernel_rfl)
-- func([]uint8) uint64
abbrev y28 : Lay := { zero := [.lit .nilFunc] }
theorem lay28 : LayOk Tryd.prog 28 y28 := layFn (d := (Tryd.prog.underlying 28).getD .bool) (by kernel_rfl) (by kernel_rfl) (by kernel_rfl)
-- func(uint64, ...int) uint64
abbrev y29 : Lay := { zero := [.lit .nilFunc] }
theorem lay29 : LayOk Tryd.prog 29 y29 := layFn (d := (Tryd.prog.underlying 29).getD .bool) (by kernel_rfl) (by kernel_rfl) (by kernel_rfl)
-- func(uint64, []int) uint64
abbrev y30 : Lay := { zero := [.lit .nilFunc] }
theorem lay30 : LayOk Tryd.prog 30 y30 := layFn (d := (Tryd.prog.underlying 30).getD .bool) (by kernel_rfl) (by kernel_rfl) (by kernel_rfl)
-- func([][]int) uint64
abbrev y31 : Lay := { zero := [.lit .nilFunc] }
theorem lay31 : LayOk Tryd.prog 31 y31 := layFn (d := (Tryd.prog.underlying 31).getD .bool) (by kernel_rfl) (by kernel_rfl) (by kernel_rfl)
-- func([]uint8, uint64, []int, [][]int) bool
abbrev y32 : Lay := { zero := [.lit .nilFunc] }
theorem lay32 : LayOk Tryd.prog 32 y32 := layFn (d := (Tryd.prog.underlying 32).getD .bool) (by kernel_rfl) (by kernel_rfl) (by kernel_rfl)
-- uint16
abbrev y33 : Lay := { zero := [.lit (.int .u16 0)], kind := some .u16 }
theorem lay33 : LayOk Tryd.prog 33 y33 := layInt .u16 (by kernel_rfl) (by kernel_rfl)
-- func([]uint8, uint16, uint8) bool
abbrev y34 : Lay := { zero := [.lit .nilFunc] }
theorem lay34 : LayOk Tryd.prog 34 y34 := layFn (d := (Tryd.prog.underlying 34).getD .bool) (by kernel_rfl) (by kernel_rfl) (by kernel_rfl)
-- func([]uint8, []uint8, []uint8) bool
abbrev y35 : Lay := { zero := [.lit .nilFunc] }
theorem lay35 : LayOk Tryd.prog 35 y35 := layFn (d := (Tryd.prog.underlying 35).getD .bool) (by kernel_rfl) (by kernel_rfl) (by kernel_rfl)
-- func(uint64, []int) []uint8
abbrev y36 : Lay := { zero := [.lit .nilFunc] }
theorem lay36 : LayOk Tryd.prog 36 y36 := layFn (d := (Tryd.prog.underlying 36).getD .bool) (by kernel_rfl) (by kernel_rfl) (by kernel_rfl)
-- func([]int, uint16, uint8) ([]int, bool)
abbrev y38 : Lay := { zero := [.lit .nilFunc] }
theorem lay38 : LayOk Tryd.prog 38 y38 := layFn (d := (Tryd.prog.underlying 38).getD .bool) (by kernel_rfl) (by kernel_rfl) (by kernel_rfl)
-- func(uint64, []int, uint16, uint8) bool
abbrev y39 : Lay := { zero := [.lit .nilFunc] }
theorem lay39 : LayOk Tryd.prog 39 y39 := layFn (d := (Tryd.prog.underlying 39).getD .bool) (by kernel_rfl) (by kernel_rfl) (by kernel_rfl)
-- func([][]int, [][]int, [][]int, []int) bool
abbrev y40 : Lay := { zero := [.lit .nilFunc] }
theorem lay40 : LayOk Tryd.prog 40 y40 := layFn (d := (Tryd.prog.underlying 40).getD .bool) (by kernel_rfl) (by kernel_rfl) (by kernel_rfl)
-- func([][]int, []int, uint16, uint8) bool
abbrev y41 : Lay := { zero := [.lit .nilFunc] }
theorem lay41 : LayOk Tryd.prog 41 y41 := layFn (d := (Tryd.prog.underlying 41).getD .bool) (by kernel_rfl) (by kernel_rfl) (by kernel_rfl)
-- func(...uint8)
abbrev y42 : Lay := { zero := [.lit .nilFunc] }
theorem lay42 : LayOk Tryd.prog 42 y42 := layFn (d := (Tryd.prog.underlying 42).getD .bool) (by kernel_rfl) (by kernel_rfl) (by kernel_rfl)
-- func() uint64
abbrev y43 : Lay := { zero := [.lit .nilFunc] }
theorem lay43 : LayOk Tryd.prog 43 y43 := layFn (d := (Tryd.prog.underlying 43).getD .bool) (by kernel_rfl) (by kernel_rfl) (by kernel_rfl)
-- func() (func(...uint8), func() uint64)
abbrev y45 : Lay := { zero := [.lit .nilFunc] }
theorem lay45 : LayOk Tryd.prog 45 y45 := layFn (d := (Tryd.prog.underlying 45).getD .bool) (by kernel_rfl) (by kernel_rfl) (by kernel_rfl)
-- func(int) string
abbrev y46 : Lay := { zero := [.lit .nilFunc] }
theorem lay46 : LayOk Tryd.prog 46 y46 := layFn (d := (Tryd.prog.underlying 46).getD .bool) (by kernel_rfl) (by kernel_rfl) (by kernel_rfl)
-- func(int64, int) string
abbrev y47 : Lay := { zero := [.lit .nilFunc] }
theorem lay47 : LayOk Tryd.prog 47 y47 := layFn (d := (Tryd.prog.underlying 47).getD .bool) (by kernel_rfl) (by kernel_rfl) (by kernel_rfl)
-- func(uint64) int
abbrev y49 : Lay := { zero := [.lit .nilFunc] }
theorem lay49 : LayOk Tryd.prog 49 y49 := layFn (d := (Tryd.prog.underlying 49).getD .bool) (by kernel_rfl) (by kernel_rfl) (by kernel_rfl)
-- func([]uint8, uint64)
abbrev y50 : Lay := { zero := [.lit .nilFunc] }
theorem lay50 : LayOk Tryd.prog 50 y50 := layFn (d := (Tryd.prog.underlying 50).getD .bool) (by kernel_rfl) (by kernel_rfl) (by kernel_rfl)
-- func([]uint8, uint64, int, bool, bool) ([]uint8, string)
abbrev y52 : Lay := { zero := [.lit .nilFunc] }
theorem lay52 : LayOk Tryd.prog 52 y52 := layFn (d := (Tryd.prog.underlying 52).getD .bool) (by kernel_rfl) (by kernel_rfl) (by kernel_rfl)
-- func(int) int
abbrev y53 : Lay := { zero := [.lit .nilFunc] }
theorem lay53 : LayOk Tryd.prog 53 y53 := layFn (d := (Tryd.prog.underlying 53).getD .bool) (by kernel_rfl) (by kernel_rfl) (by kernel_rfl)
-- func(bool) int
abbrev y54 : Lay := { zero := [.lit .nilFunc] }
theorem lay54 : LayOk Tryd.prog 54 y54 := layFn (d := (Tryd.prog.underlying 54).getD .bool) (by kernel_rfl) (by kernel_rfl) (by kernel_rfl)
-- uint32
abbrev y56 : Lay := { zero := [.lit (.int .u32 0)], kind := some .u32 }
theorem lay56 : LayOk Tryd.prog 56 y56 := layInt .u32 (by kernel_rfl) (by kernel_rfl)
-- func(int) bool
abbrev y58 : Lay := { zero := [.lit .nilFunc] }
theorem lay58 : LayOk Tryd.prog 58 y58 := layFn (d := (Tryd.prog.underlying 58).getD .bool) (by kernel_rfl) (by kernel_rfl) (by kernel_rfl)
-- uint
abbrev y59 : Lay := { zero := [.lit (.int .u64 0)], kind := some .u64 }
theorem lay59 : LayOk Tryd.prog 59 y59 := layInt .u64 (by kernel_rfl) (by kernel_rfl)
-- func(uint) int
abbrev y60 : Lay := { zero := [.lit .nilFunc] }
theorem lay60 : LayOk Tryd.prog 60 y60 := layFn (d := (Tryd.prog.underlying 60).getD .bool) (by kernel_rfl) (by kernel_rfl) (by kernel_rfl)
-- func(uint32) int
abbrev y61 : Lay := { zero := [.lit .nilFunc] }
theorem lay61 : LayOk Tryd.prog 61 y61 := layFn (d := (Tryd.prog.underlying 61).getD .bool) (by kernel_rfl) (by kernel_rfl) (by kernel_rfl)
-- func() string
abbrev y64 : Lay := { zero := [.lit .nilFunc] }
theorem lay64 : LayOk Tryd.prog 64 y64 := layFn (d := (Tryd.prog.underlying 64).getD .bool) (by kernel_rfl) (by kernel_rfl) (by kernel_rfl)
-- func() int
abbrev y70 : Lay := { zero := [.lit .nilFunc] }
theorem lay70 : LayOk Tryd.prog 70 y70 := layFn (d := (Tryd.prog.underlying 70).getD .bool) (by kernel_rfl) (by kernel_rfl) (by kernel_rfl)
-- func(unsafe.Pointer, unsafe.Pointer) bool
abbrev y73 : Lay := { zero := [.lit .nilFunc] }
theorem lay73 : LayOk Tryd.prog 73 y73 := layFn (d := (Tryd.prog.underlying 73).getD .bool) (by kernel_rfl) (by kernel_rfl) (by kernel_rfl)
-- *uint8
abbrev y74 : Lay := { zero := [.lit (.pointer none)] }
theorem lay74 : LayOk Tryd.prog 74 y74 := layOne (d := (Tryd.prog.underlying 74).getD .bool) (z := .pointer none) (k := none) (by kernel_rfl) (by kernel_rfl) (by kernel_rfl) (fun _ _ => .lit rfl) (fun q h => by cases h)
def L0 : Nat → Option Lay := Sy.look [(1, y1), (2, y2), (3, y3), (4, y4), (5, y5), (9, y9), (12, y12), (21, y21), (22, y22), (23, y23), (24, y24), (25, y25), (26, y26), (27, y27), (28, y28), (29, y29), (30, y30), (31, y31), (32, y32), (33, y33), (34, y34), (35, y35), (36, y36), (38, y38), (39, y39), (40, y40), (41, y41), (42, y42), (43, y43), (45, y45), (46, y46), (47, y47), (49, y49), (50, y50), (52, y52), (53, y53), (54, y54), (56, y56), (58, y58), (59, y59), (60, y60), (61, y61), (64, y64), (70, y70), (73, y73), (74, y74)]
theorem L0_ok : LOk Tryd.prog L0 := by
  refine look_ok fun q hq => ?_
  simp only [List.mem_cons, List.not_mem_nil, or_false] at hq
  rcases hq with rfl | rfl | rfl | rfl | rfl | rfl | rfl | rfl | rfl | rfl | rfl | rfl | rfl | rfl | rfl | rfl | rfl | rfl | rfl | rfl | rfl | rfl | rfl | rfl | rfl | rfl | rfl | rfl | rfl | rfl | rfl | rfl | rfl | rfl | rfl | rfl | rfl | rfl | rfl | rfl | rfl | rfl | rfl | rfl | rfl | rfl
  · exact lay1
  · exact lay2
  · exact lay3
  · exact lay4
  · exact lay5
  · exact lay9
  · exact lay12
  · exact lay21
  · exact lay22
  · exact lay23
  · exact lay24
  · exact lay25
  · exact lay26
  · exact lay27
  · exact lay28
  · exact lay29
  · exact lay30
  · exact lay31
  · exact lay32
  · exact lay33
  · exact lay34
  · exact lay35
  · exact lay36
  · exact lay38
  · exact lay39
  · exact lay40
  · exact lay41
  · exact lay42
  · exact lay43
  · exact lay45
  · exact lay46
  · exact lay47
  · exact lay49
  · exact lay50
  · exact lay52
  · exact lay53
  · exact lay54
  · exact lay56
  · exact lay58
  · exact lay59
  · exact lay60
  · exact lay61
  · exact lay64
  · exact lay70
  · exact lay73
  · exact lay74
def LV (os vs : List Nat) (wr : Bool) : Nat → Option Lay := LVar L0 os vs wr
theorem LV_ok (os vs : List Nat) (wr : Bool) : LOk Tryd.prog (LV os vs wr) := LVar_ok L0_ok os vs wr
def L : Nat → Option Lay := LV [] [] false
theorem L_ok : LOk Tryd.prog L := LV_ok [] [] false
theorem mixed : Tryd.prog.follows .mixedOrders = true := by kernel_rfl
end Go.Proofs.YtiejdafjjneaeaaDoor
