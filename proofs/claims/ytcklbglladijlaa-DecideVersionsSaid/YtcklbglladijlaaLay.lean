/- The layouts of this seat's types, each proved by closed facts off the loaded program. Written by a program (wip/tools/lay.py). -/
import Derived.Test.YtcklbglladijlaaSyX
import Derived.Test.YtcklbglladijlaaProg
namespace Go.Proofs.Ytcklbglladijlaa
open Go.Sy
set_option linter.unusedVariables false
abbrev y1 : Lay := { zero := [.lit .nilFunc] }
theorem lay1 : LayOk Try.prog 1 y1 := layFn (d := (Try.prog.underlying 1).getD .bool) (by kernel_rfl) (by kernel_rfl) (by kernel_rfl)
abbrev y2 : Lay := { zero := [.lit (.int .i64 0)], kind := some .i64 }
theorem lay2 : LayOk Try.prog 2 y2 := layInt .i64 (by kernel_rfl) (by kernel_rfl)
abbrev y3 : Lay := y2
theorem lay3 : LayOk Try.prog 3 y3 := layInt .i64 (by kernel_rfl) (by kernel_rfl)
abbrev y4 : Lay := { zero := [.lit (.bool false)], eqs := some [.b] }
theorem lay4 : LayOk Try.prog 4 y4 := layBool (by kernel_rfl) (by kernel_rfl) (by kernel_rfl)
abbrev y5 : Lay := { zero := [.lit (.int .u8 0)], kind := some .u8 }
theorem lay5 : LayOk Try.prog 5 y5 := layInt .u8 (by kernel_rfl) (by kernel_rfl)
abbrev y9 : Lay := { zero := [.lit (.string ByteArray.empty)], sk := 1 }
theorem lay9 : LayOk Try.prog 9 y9 := laySk 1 (layStr (by kernel_rfl) (by kernel_rfl)) (sk1 (by kernel_rfl))
abbrev y12 : Lay := { zero := [.lit (.int .u64 0)], kind := some .u64 }
theorem lay12 : LayOk Try.prog 12 y12 := layInt .u64 (by kernel_rfl) (by kernel_rfl)
abbrev y21 : Lay := { zero := [.lit (.int .i32 0)], kind := some .i32 }
theorem lay21 : LayOk Try.prog 21 y21 := layInt .i32 (by kernel_rfl) (by kernel_rfl)
abbrev y22 : Lay := { zero := [.sl (.tp (.tp (.ti .i64) (.tp (.tl (.tp (.ti .i64) (.tp (.tp (.ti .i64) (.ti .i64)) (.ti .i64)))) (.tp (.tl (.tp (.ti .i64) (.tp (.ti .i64) (.tp (.ti .i64) (.tp (.ti .i64) (.tp (.ti .i64) (.tp (.tp (.ti .i64) (.ti .i64)) (.tp (.tp (.ti .i64) (.tp (.ti .i64) (.ti .i64))) (.tp (.ti .i64) (.tp (.ti .i64) (.ti .i64))))))))))) (.tl (.tp (.ti .i64) (.tp (.ti .i64) (.tp (.ti .i64) (.tp (.ti .i64) (.tp (.ti .i64) (.tp (.tp (.ti .i64) (.ti .i64)) (.tp (.tp (.ti .i64) (.ti .i64)) (.tp (.ti .i64) (.tp (.ti .i64) (.ti .i64)))))))))))))) (.tp (.tp (.ti .i64) (.tp (.tl (.tp (.ti .i64) (.tp (.ti .i64) (.ti .i64)))) (.tp (.tl (.tp (.ti .i64) (.tp (.ti .i64) (.ti .i64)))) (.tp (.tp (.ti .i64) (.tp (.ti .i64) (.ti .i64))) (.tl (.tp (.ti .i64) (.tp (.ti .i64) (.ti .i64)))))))) (.tl (.tp (.ti .i64) (.tp (.ti .i64) (.ti .i64)))))) []], el := some 12, ety := some (.tp (.tp (.ti .i64) (.tp (.tl (.tp (.ti .i64) (.tp (.tp (.ti .i64) (.ti .i64)) (.ti .i64)))) (.tp (.tl (.tp (.ti .i64) (.tp (.ti .i64) (.tp (.ti .i64) (.tp (.ti .i64) (.tp (.ti .i64) (.tp (.tp (.ti .i64) (.ti .i64)) (.tp (.tp (.ti .i64) (.tp (.ti .i64) (.ti .i64))) (.tp (.ti .i64) (.tp (.ti .i64) (.ti .i64))))))))))) (.tl (.tp (.ti .i64) (.tp (.ti .i64) (.tp (.ti .i64) (.tp (.ti .i64) (.tp (.ti .i64) (.tp (.tp (.ti .i64) (.ti .i64)) (.tp (.tp (.ti .i64) (.ti .i64)) (.tp (.ti .i64) (.tp (.ti .i64) (.ti .i64)))))))))))))) (.tp (.tp (.ti .i64) (.tp (.tl (.tp (.ti .i64) (.tp (.ti .i64) (.ti .i64)))) (.tp (.tl (.tp (.ti .i64) (.tp (.ti .i64) (.ti .i64)))) (.tp (.tp (.ti .i64) (.tp (.ti .i64) (.ti .i64))) (.tl (.tp (.ti .i64) (.tp (.ti .i64) (.ti .i64)))))))) (.tl (.tp (.ti .i64) (.tp (.ti .i64) (.ti .i64))))), 59, 208) }
theorem lay22 : LayOk Try.prog 22 y22 := laySlice 59 (.tp (.tp (.ti .i64) (.tp (.tl (.tp (.ti .i64) (.tp (.tp (.ti .i64) (.ti .i64)) (.ti .i64)))) (.tp (.tl (.tp (.ti .i64) (.tp (.ti .i64) (.tp (.ti .i64) (.tp (.ti .i64) (.tp (.ti .i64) (.tp (.tp (.ti .i64) (.ti .i64)) (.tp (.tp (.ti .i64) (.tp (.ti .i64) (.ti .i64))) (.tp (.ti .i64) (.tp (.ti .i64) (.ti .i64))))))))))) (.tl (.tp (.ti .i64) (.tp (.ti .i64) (.tp (.ti .i64) (.tp (.ti .i64) (.tp (.ti .i64) (.tp (.tp (.ti .i64) (.ti .i64)) (.tp (.tp (.ti .i64) (.ti .i64)) (.tp (.ti .i64) (.tp (.ti .i64) (.ti .i64)))))))))))))) (.tp (.tp (.ti .i64) (.tp (.tl (.tp (.ti .i64) (.tp (.ti .i64) (.ti .i64)))) (.tp (.tl (.tp (.ti .i64) (.tp (.ti .i64) (.ti .i64)))) (.tp (.tp (.ti .i64) (.tp (.ti .i64) (.ti .i64))) (.tl (.tp (.ti .i64) (.tp (.ti .i64) (.ti .i64)))))))) (.tl (.tp (.ti .i64) (.tp (.ti .i64) (.ti .i64)))))) 208 (by kernel_rfl) (by kernel_rfl) (by kernel_rfl) (by decide) (by decide)
abbrev y23 : Lay := { zero := [.sl (.tp (.ti .i64) (.tp (.ti .i64) (.tp (.ti .i64) (.tp (.ti .i64) (.tp (.ti .i64) (.ti .i64)))))) []], el := some 6, ety := some (.tp (.ti .i64) (.tp (.ti .i64) (.tp (.ti .i64) (.tp (.ti .i64) (.tp (.ti .i64) (.ti .i64))))), 25, 48) }
theorem lay23 : LayOk Try.prog 23 y23 := laySlice 25 (.tp (.ti .i64) (.tp (.ti .i64) (.tp (.ti .i64) (.tp (.ti .i64) (.tp (.ti .i64) (.ti .i64)))))) 48 (by kernel_rfl) (by kernel_rfl) (by kernel_rfl) (by decide) (by decide)
abbrev y24 : Lay := { size := 6, agg := true, zero := [.lit (.int .i64 0), .lit (.int .i64 0), .lit (.int .i64 0), .lit (.int .i64 0), .lit (.int .i64 0), .lit (.int .i64 0)], fs := [(0, 1), (1, 1), (2, 1), (3, 1), (4, 1), (5, 1)], eqs := some [.i, .i, .i, .i, .i, .i] }
theorem lay24 : LayOk Try.prog 24 y24 := layStruct (zs := [.int .i64 0, .int .i64 0, .int .i64 0, .int .i64 0, .int .i64 0, .int .i64 0]) (by kernel_rfl) rfl (by kernel_rfl) (by kernel_rfl) (by decide) (fun ks h => by injection h with h; subst h; exact ⟨by kernel_rfl, by kernel_rfl⟩)
abbrev y25 : Lay := y24
theorem lay25 : LayOk Try.prog 25 y25 := layStruct (zs := [.int .i64 0, .int .i64 0, .int .i64 0, .int .i64 0, .int .i64 0, .int .i64 0]) (by kernel_rfl) rfl (by kernel_rfl) (by kernel_rfl) (by decide) (fun ks h => by injection h with h; subst h; exact ⟨by kernel_rfl, by kernel_rfl⟩)
abbrev y26 : Lay := y1
theorem lay26 : LayOk Try.prog 26 y26 := layFn (d := (Try.prog.underlying 26).getD .bool) (by kernel_rfl) (by kernel_rfl) (by kernel_rfl)
abbrev y27 : Lay := y1
theorem lay27 : LayOk Try.prog 27 y27 := layFn (d := (Try.prog.underlying 27).getD .bool) (by kernel_rfl) (by kernel_rfl) (by kernel_rfl)
abbrev y28 : Lay := y2
theorem lay28 : LayOk Try.prog 28 y28 := layInt .i64 (by kernel_rfl) (by kernel_rfl)
abbrev y30 : Lay := y1
theorem lay30 : LayOk Try.prog 30 y30 := layFn (d := (Try.prog.underlying 30).getD .bool) (by kernel_rfl) (by kernel_rfl) (by kernel_rfl)
abbrev y31 : Lay := y1
theorem lay31 : LayOk Try.prog 31 y31 := layFn (d := (Try.prog.underlying 31).getD .bool) (by kernel_rfl) (by kernel_rfl) (by kernel_rfl)
abbrev y32 : Lay := { zero := [.sl (.tp (.ti .i64) (.tp (.ti .i64) (.ti .i64))) []], el := some 3, ety := some (.tp (.ti .i64) (.tp (.ti .i64) (.ti .i64)), 62, 24) }
theorem lay32 : LayOk Try.prog 32 y32 := laySlice 62 (.tp (.ti .i64) (.tp (.ti .i64) (.ti .i64))) 24 (by kernel_rfl) (by kernel_rfl) (by kernel_rfl) (by decide) (by decide)
abbrev y33 : Lay := { zero := [.sl (.tp (.ti .i64) (.tp (.ti .i64) (.ti .i64))) []], el := some 3, ety := some (.tp (.ti .i64) (.tp (.ti .i64) (.ti .i64)), 99, 24) }
theorem lay33 : LayOk Try.prog 33 y33 := laySlice 99 (.tp (.ti .i64) (.tp (.ti .i64) (.ti .i64))) 24 (by kernel_rfl) (by kernel_rfl) (by kernel_rfl) (by decide) (by decide)
abbrev y34 : Lay := { size := 3, agg := true, zero := [.lit (.int .i64 0), .lit (.int .i64 0), .lit (.int .i64 0)], fs := [(0, 1), (1, 1), (2, 1)], eqs := some [.i, .i, .i] }
theorem lay34 : LayOk Try.prog 34 y34 := layStruct (zs := [.int .i64 0, .int .i64 0, .int .i64 0]) (by kernel_rfl) rfl (by kernel_rfl) (by kernel_rfl) (by decide) (fun ks h => by injection h with h; subst h; exact ⟨by kernel_rfl, by kernel_rfl⟩)
abbrev y35 : Lay := y34
theorem lay35 : LayOk Try.prog 35 y35 := layStruct (zs := [.int .i64 0, .int .i64 0, .int .i64 0]) (by kernel_rfl) rfl (by kernel_rfl) (by kernel_rfl) (by decide) (fun ks h => by injection h with h; subst h; exact ⟨by kernel_rfl, by kernel_rfl⟩)
abbrev y36 : Lay := { zero := [.sl (.tp (.ti .i64) (.tp (.ti .i64) (.ti .i64))) []], el := some 3, ety := some (.tp (.ti .i64) (.tp (.ti .i64) (.ti .i64)), 67, 24) }
theorem lay36 : LayOk Try.prog 36 y36 := laySlice 67 (.tp (.ti .i64) (.tp (.ti .i64) (.ti .i64))) 24 (by kernel_rfl) (by kernel_rfl) (by kernel_rfl) (by decide) (by decide)
abbrev y37 : Lay := { size := 7, agg := true, zero := [.lit (.int .i64 0), nilS, nilS, .lit (.int .i64 0), .lit (.int .i64 0), .lit (.int .i64 0), nilS], fs := [(0, 1), (1, 1), (2, 1), (3, 3), (6, 1)], eqs := none, cv := [(1, (.tp (.ti .i64) (.tp (.ti .i64) (.ti .i64)), (62, false))), (2, (.tp (.ti .i64) (.tp (.ti .i64) (.ti .i64)), (99, false))), (6, (.tp (.ti .i64) (.tp (.ti .i64) (.ti .i64)), (67, false)))], cz := [(1, .tp (.ti .i64) (.tp (.ti .i64) (.ti .i64))), (2, .tp (.ti .i64) (.tp (.ti .i64) (.ti .i64))), (6, .tp (.ti .i64) (.tp (.ti .i64) (.ti .i64)))] }
theorem lay37 : LayOk Try.prog 37 y37 := layStruct (zs := [.int .i64 0, .slice none 0 0, .slice none 0 0, .int .i64 0, .int .i64 0, .int .i64 0, .slice none 0 0]) (by kernel_rfl) rfl (by kernel_rfl) (by kernel_rfl) (by decide) (fun ks h => by cases h)
abbrev y38 : Lay := y37
theorem lay38 : LayOk Try.prog 38 y38 := layStruct (zs := [.int .i64 0, .slice none 0 0, .slice none 0 0, .int .i64 0, .int .i64 0, .int .i64 0, .slice none 0 0]) (by kernel_rfl) rfl (by kernel_rfl) (by kernel_rfl) (by decide) (fun ks h => by cases h)
abbrev y39 : Lay := { zero := [.sl (.ti .i64) []], el := some 1, ety := some (.ti .i64, 3, 8) }
theorem lay39 : LayOk Try.prog 39 y39 := laySlice 3 (.ti .i64) 8 (by kernel_rfl) (by kernel_rfl) (by kernel_rfl) (by decide) (by decide)
abbrev y40 : Lay := { size := 9, agg := true, zero := [.lit (.int .i64 0), .lit (.int .i64 0), nilS, nilS, .lit (.int .i64 0), .lit (.int .i64 0), .lit (.int .i64 0), nilS, nilS], fs := [(0, 1), (1, 7), (8, 1)], eqs := none, cv := [(2, (.tp (.ti .i64) (.tp (.ti .i64) (.ti .i64)), (62, false))), (3, (.tp (.ti .i64) (.tp (.ti .i64) (.ti .i64)), (99, false))), (7, (.tp (.ti .i64) (.tp (.ti .i64) (.ti .i64)), (67, false))), (8, (.ti .i64, (3, false)))], cz := [(2, .tp (.ti .i64) (.tp (.ti .i64) (.ti .i64))), (3, .tp (.ti .i64) (.tp (.ti .i64) (.ti .i64))), (7, .tp (.ti .i64) (.tp (.ti .i64) (.ti .i64))), (8, .ti .i64)] }
theorem lay40 : LayOk Try.prog 40 y40 := layStruct (zs := [.int .i64 0, .int .i64 0, .slice none 0 0, .slice none 0 0, .int .i64 0, .int .i64 0, .int .i64 0, .slice none 0 0, .slice none 0 0]) (by kernel_rfl) rfl (by kernel_rfl) (by kernel_rfl) (by decide) (fun ks h => by cases h)
abbrev y41 : Lay := y40
theorem lay41 : LayOk Try.prog 41 y41 := layStruct (zs := [.int .i64 0, .int .i64 0, .slice none 0 0, .slice none 0 0, .int .i64 0, .int .i64 0, .int .i64 0, .slice none 0 0, .slice none 0 0]) (by kernel_rfl) rfl (by kernel_rfl) (by kernel_rfl) (by decide) (fun ks h => by cases h)
abbrev y43 : Lay := y1
theorem lay43 : LayOk Try.prog 43 y43 := layFn (d := (Try.prog.underlying 43).getD .bool) (by kernel_rfl) (by kernel_rfl) (by kernel_rfl)
abbrev y44 : Lay := y1
theorem lay44 : LayOk Try.prog 44 y44 := layFn (d := (Try.prog.underlying 44).getD .bool) (by kernel_rfl) (by kernel_rfl) (by kernel_rfl)
abbrev y45 : Lay := y1
theorem lay45 : LayOk Try.prog 45 y45 := layFn (d := (Try.prog.underlying 45).getD .bool) (by kernel_rfl) (by kernel_rfl) (by kernel_rfl)
abbrev y46 : Lay := y1
theorem lay46 : LayOk Try.prog 46 y46 := layFn (d := (Try.prog.underlying 46).getD .bool) (by kernel_rfl) (by kernel_rfl) (by kernel_rfl)
abbrev y47 : Lay := y1
theorem lay47 : LayOk Try.prog 47 y47 := layFn (d := (Try.prog.underlying 47).getD .bool) (by kernel_rfl) (by kernel_rfl) (by kernel_rfl)
abbrev y48 : Lay := y1
theorem lay48 : LayOk Try.prog 48 y48 := layFn (d := (Try.prog.underlying 48).getD .bool) (by kernel_rfl) (by kernel_rfl) (by kernel_rfl)
abbrev y49 : Lay := y1
theorem lay49 : LayOk Try.prog 49 y49 := layFn (d := (Try.prog.underlying 49).getD .bool) (by kernel_rfl) (by kernel_rfl) (by kernel_rfl)
abbrev y50 : Lay := y1
theorem lay50 : LayOk Try.prog 50 y50 := layFn (d := (Try.prog.underlying 50).getD .bool) (by kernel_rfl) (by kernel_rfl) (by kernel_rfl)
abbrev y51 : Lay := y1
theorem lay51 : LayOk Try.prog 51 y51 := layFn (d := (Try.prog.underlying 51).getD .bool) (by kernel_rfl) (by kernel_rfl) (by kernel_rfl)
abbrev y52 : Lay := { zero := [.sl (.tp (.ti .i64) (.tp (.tp (.ti .i64) (.ti .i64)) (.ti .i64))) []], el := some 4, ety := some (.tp (.ti .i64) (.tp (.tp (.ti .i64) (.ti .i64)) (.ti .i64)), 89, 32) }
theorem lay52 : LayOk Try.prog 52 y52 := laySlice 89 (.tp (.ti .i64) (.tp (.tp (.ti .i64) (.ti .i64)) (.ti .i64))) 32 (by kernel_rfl) (by kernel_rfl) (by kernel_rfl) (by decide) (by decide)
abbrev y53 : Lay := { zero := [.sl (.tp (.ti .i64) (.tp (.ti .i64) (.tp (.ti .i64) (.tp (.ti .i64) (.tp (.ti .i64) (.tp (.tp (.ti .i64) (.ti .i64)) (.tp (.tp (.ti .i64) (.tp (.ti .i64) (.ti .i64))) (.tp (.ti .i64) (.tp (.ti .i64) (.ti .i64)))))))))) []], el := some 13, ety := some (.tp (.ti .i64) (.tp (.ti .i64) (.tp (.ti .i64) (.tp (.ti .i64) (.tp (.ti .i64) (.tp (.tp (.ti .i64) (.ti .i64)) (.tp (.tp (.ti .i64) (.tp (.ti .i64) (.ti .i64))) (.tp (.ti .i64) (.tp (.ti .i64) (.ti .i64))))))))), 166, 104) }
theorem lay53 : LayOk Try.prog 53 y53 := laySlice 166 (.tp (.ti .i64) (.tp (.ti .i64) (.tp (.ti .i64) (.tp (.ti .i64) (.tp (.ti .i64) (.tp (.tp (.ti .i64) (.ti .i64)) (.tp (.tp (.ti .i64) (.tp (.ti .i64) (.ti .i64))) (.tp (.ti .i64) (.tp (.ti .i64) (.ti .i64)))))))))) 104 (by kernel_rfl) (by kernel_rfl) (by kernel_rfl) (by decide) (by decide)
abbrev y54 : Lay := { zero := [.sl (.tp (.ti .i64) (.tp (.ti .i64) (.tp (.ti .i64) (.tp (.ti .i64) (.tp (.ti .i64) (.tp (.tp (.ti .i64) (.ti .i64)) (.tp (.tp (.ti .i64) (.ti .i64)) (.tp (.ti .i64) (.tp (.ti .i64) (.ti .i64)))))))))) []], el := some 12, ety := some (.tp (.ti .i64) (.tp (.ti .i64) (.tp (.ti .i64) (.tp (.ti .i64) (.tp (.ti .i64) (.tp (.tp (.ti .i64) (.ti .i64)) (.tp (.tp (.ti .i64) (.ti .i64)) (.tp (.ti .i64) (.tp (.ti .i64) (.ti .i64))))))))), 168, 96) }
theorem lay54 : LayOk Try.prog 54 y54 := laySlice 168 (.tp (.ti .i64) (.tp (.ti .i64) (.tp (.ti .i64) (.tp (.ti .i64) (.tp (.ti .i64) (.tp (.tp (.ti .i64) (.ti .i64)) (.tp (.tp (.ti .i64) (.ti .i64)) (.tp (.ti .i64) (.tp (.ti .i64) (.ti .i64)))))))))) 96 (by kernel_rfl) (by kernel_rfl) (by kernel_rfl) (by decide) (by decide)
abbrev y55 : Lay := { size := 4, agg := true, zero := [.lit (.int .i64 0), nilS, nilS, nilS], fs := [(0, 1), (1, 1), (2, 1), (3, 1)], eqs := none, cv := [(1, (.tp (.ti .i64) (.tp (.tp (.ti .i64) (.ti .i64)) (.ti .i64)), (89, false))), (2, (.tp (.ti .i64) (.tp (.ti .i64) (.tp (.ti .i64) (.tp (.ti .i64) (.tp (.ti .i64) (.tp (.tp (.ti .i64) (.ti .i64)) (.tp (.tp (.ti .i64) (.tp (.ti .i64) (.ti .i64))) (.tp (.ti .i64) (.tp (.ti .i64) (.ti .i64))))))))), (166, false))), (3, (.tp (.ti .i64) (.tp (.ti .i64) (.tp (.ti .i64) (.tp (.ti .i64) (.tp (.ti .i64) (.tp (.tp (.ti .i64) (.ti .i64)) (.tp (.tp (.ti .i64) (.ti .i64)) (.tp (.ti .i64) (.tp (.ti .i64) (.ti .i64))))))))), (168, false)))], cz := [(1, .tp (.ti .i64) (.tp (.tp (.ti .i64) (.ti .i64)) (.ti .i64))), (2, .tp (.ti .i64) (.tp (.ti .i64) (.tp (.ti .i64) (.tp (.ti .i64) (.tp (.ti .i64) (.tp (.tp (.ti .i64) (.ti .i64)) (.tp (.tp (.ti .i64) (.tp (.ti .i64) (.ti .i64))) (.tp (.ti .i64) (.tp (.ti .i64) (.ti .i64)))))))))), (3, .tp (.ti .i64) (.tp (.ti .i64) (.tp (.ti .i64) (.tp (.ti .i64) (.tp (.ti .i64) (.tp (.tp (.ti .i64) (.ti .i64)) (.tp (.tp (.ti .i64) (.ti .i64)) (.tp (.ti .i64) (.tp (.ti .i64) (.ti .i64))))))))))] }
theorem lay55 : LayOk Try.prog 55 y55 := layStruct (zs := [.int .i64 0, .slice none 0 0, .slice none 0 0, .slice none 0 0]) (by kernel_rfl) rfl (by kernel_rfl) (by kernel_rfl) (by decide) (fun ks h => by cases h)
abbrev y56 : Lay := y55
theorem lay56 : LayOk Try.prog 56 y56 := layStruct (zs := [.int .i64 0, .slice none 0 0, .slice none 0 0, .slice none 0 0]) (by kernel_rfl) rfl (by kernel_rfl) (by kernel_rfl) (by decide) (fun ks h => by cases h)
abbrev y57 : Lay := { zero := [.sl (.tp (.ti .i64) (.tp (.ti .i64) (.ti .i64))) []], el := some 3, ety := some (.tp (.ti .i64) (.tp (.ti .i64) (.ti .i64)), 170, 24) }
theorem lay57 : LayOk Try.prog 57 y57 := laySlice 170 (.tp (.ti .i64) (.tp (.ti .i64) (.ti .i64))) 24 (by kernel_rfl) (by kernel_rfl) (by kernel_rfl) (by decide) (by decide)
abbrev y58 : Lay := { size := 12, agg := true, zero := [.lit (.int .i64 0), nilS, nilS, nilS, .lit (.int .i64 0), nilS, nilS, .lit (.int .i64 0), .lit (.int .i64 0), .lit (.int .i64 0), nilS, nilS], fs := [(0, 4), (4, 7), (11, 1)], eqs := none, cv := [(1, (.tp (.ti .i64) (.tp (.tp (.ti .i64) (.ti .i64)) (.ti .i64)), (89, false))), (2, (.tp (.ti .i64) (.tp (.ti .i64) (.tp (.ti .i64) (.tp (.ti .i64) (.tp (.ti .i64) (.tp (.tp (.ti .i64) (.ti .i64)) (.tp (.tp (.ti .i64) (.tp (.ti .i64) (.ti .i64))) (.tp (.ti .i64) (.tp (.ti .i64) (.ti .i64))))))))), (166, false))), (3, (.tp (.ti .i64) (.tp (.ti .i64) (.tp (.ti .i64) (.tp (.ti .i64) (.tp (.ti .i64) (.tp (.tp (.ti .i64) (.ti .i64)) (.tp (.tp (.ti .i64) (.ti .i64)) (.tp (.ti .i64) (.tp (.ti .i64) (.ti .i64))))))))), (168, false))), (5, (.tp (.ti .i64) (.tp (.ti .i64) (.ti .i64)), (62, false))), (6, (.tp (.ti .i64) (.tp (.ti .i64) (.ti .i64)), (99, false))), (10, (.tp (.ti .i64) (.tp (.ti .i64) (.ti .i64)), (67, false))), (11, (.tp (.ti .i64) (.tp (.ti .i64) (.ti .i64)), (170, false)))], cz := [(1, .tp (.ti .i64) (.tp (.tp (.ti .i64) (.ti .i64)) (.ti .i64))), (2, .tp (.ti .i64) (.tp (.ti .i64) (.tp (.ti .i64) (.tp (.ti .i64) (.tp (.ti .i64) (.tp (.tp (.ti .i64) (.ti .i64)) (.tp (.tp (.ti .i64) (.tp (.ti .i64) (.ti .i64))) (.tp (.ti .i64) (.tp (.ti .i64) (.ti .i64)))))))))), (3, .tp (.ti .i64) (.tp (.ti .i64) (.tp (.ti .i64) (.tp (.ti .i64) (.tp (.ti .i64) (.tp (.tp (.ti .i64) (.ti .i64)) (.tp (.tp (.ti .i64) (.ti .i64)) (.tp (.ti .i64) (.tp (.ti .i64) (.ti .i64)))))))))), (5, .tp (.ti .i64) (.tp (.ti .i64) (.ti .i64))), (6, .tp (.ti .i64) (.tp (.ti .i64) (.ti .i64))), (10, .tp (.ti .i64) (.tp (.ti .i64) (.ti .i64))), (11, .tp (.ti .i64) (.tp (.ti .i64) (.ti .i64)))] }
theorem lay58 : LayOk Try.prog 58 y58 := layStruct (zs := [.int .i64 0, .slice none 0 0, .slice none 0 0, .slice none 0 0, .int .i64 0, .slice none 0 0, .slice none 0 0, .int .i64 0, .int .i64 0, .int .i64 0, .slice none 0 0, .slice none 0 0]) (by kernel_rfl) rfl (by kernel_rfl) (by kernel_rfl) (by decide) (fun ks h => by cases h)
abbrev y59 : Lay := y58
theorem lay59 : LayOk Try.prog 59 y59 := layStruct (zs := [.int .i64 0, .slice none 0 0, .slice none 0 0, .slice none 0 0, .int .i64 0, .slice none 0 0, .slice none 0 0, .int .i64 0, .int .i64 0, .int .i64 0, .slice none 0 0, .slice none 0 0]) (by kernel_rfl) rfl (by kernel_rfl) (by kernel_rfl) (by decide) (fun ks h => by cases h)
abbrev y60 : Lay := y1
theorem lay60 : LayOk Try.prog 60 y60 := layFn (d := (Try.prog.underlying 60).getD .bool) (by kernel_rfl) (by kernel_rfl) (by kernel_rfl)
abbrev y61 : Lay := y34
theorem lay61 : LayOk Try.prog 61 y61 := layStruct (zs := [.int .i64 0, .int .i64 0, .int .i64 0]) (by kernel_rfl) rfl (by kernel_rfl) (by kernel_rfl) (by decide) (fun ks h => by injection h with h; subst h; exact ⟨by kernel_rfl, by kernel_rfl⟩)
abbrev y62 : Lay := y34
theorem lay62 : LayOk Try.prog 62 y62 := layStruct (zs := [.int .i64 0, .int .i64 0, .int .i64 0]) (by kernel_rfl) rfl (by kernel_rfl) (by kernel_rfl) (by decide) (fun ks h => by injection h with h; subst h; exact ⟨by kernel_rfl, by kernel_rfl⟩)
abbrev y63 : Lay := y1
theorem lay63 : LayOk Try.prog 63 y63 := layFn (d := (Try.prog.underlying 63).getD .bool) (by kernel_rfl) (by kernel_rfl) (by kernel_rfl)
abbrev y64 : Lay := y1
theorem lay64 : LayOk Try.prog 64 y64 := layFn (d := (Try.prog.underlying 64).getD .bool) (by kernel_rfl) (by kernel_rfl) (by kernel_rfl)
abbrev y65 : Lay := y1
theorem lay65 : LayOk Try.prog 65 y65 := layFn (d := (Try.prog.underlying 65).getD .bool) (by kernel_rfl) (by kernel_rfl) (by kernel_rfl)
abbrev y66 : Lay := y34
theorem lay66 : LayOk Try.prog 66 y66 := layStruct (zs := [.int .i64 0, .int .i64 0, .int .i64 0]) (by kernel_rfl) rfl (by kernel_rfl) (by kernel_rfl) (by decide) (fun ks h => by injection h with h; subst h; exact ⟨by kernel_rfl, by kernel_rfl⟩)
abbrev y67 : Lay := y34
theorem lay67 : LayOk Try.prog 67 y67 := layStruct (zs := [.int .i64 0, .int .i64 0, .int .i64 0]) (by kernel_rfl) rfl (by kernel_rfl) (by kernel_rfl) (by decide) (fun ks h => by injection h with h; subst h; exact ⟨by kernel_rfl, by kernel_rfl⟩)
abbrev y68 : Lay := { zero := [.lit (.pointer none)] }
theorem lay68 : LayOk Try.prog 68 y68 := layOne (d := (Try.prog.underlying 68).getD .bool) (z := .pointer none) (k := none) (by kernel_rfl) (by kernel_rfl) (by kernel_rfl) (fun _ _ => .lit rfl) (fun q h => by cases h)
abbrev y70 : Lay := y1
theorem lay70 : LayOk Try.prog 70 y70 := layFn (d := (Try.prog.underlying 70).getD .bool) (by kernel_rfl) (by kernel_rfl) (by kernel_rfl)
abbrev y71 : Lay := y1
theorem lay71 : LayOk Try.prog 71 y71 := layFn (d := (Try.prog.underlying 71).getD .bool) (by kernel_rfl) (by kernel_rfl) (by kernel_rfl)
abbrev y72 : Lay := y1
theorem lay72 : LayOk Try.prog 72 y72 := layFn (d := (Try.prog.underlying 72).getD .bool) (by kernel_rfl) (by kernel_rfl) (by kernel_rfl)
abbrev y73 : Lay := y1
theorem lay73 : LayOk Try.prog 73 y73 := layFn (d := (Try.prog.underlying 73).getD .bool) (by kernel_rfl) (by kernel_rfl) (by kernel_rfl)
abbrev y74 : Lay := y1
theorem lay74 : LayOk Try.prog 74 y74 := layFn (d := (Try.prog.underlying 74).getD .bool) (by kernel_rfl) (by kernel_rfl) (by kernel_rfl)
abbrev y75 : Lay := y1
theorem lay75 : LayOk Try.prog 75 y75 := layFn (d := (Try.prog.underlying 75).getD .bool) (by kernel_rfl) (by kernel_rfl) (by kernel_rfl)
abbrev y76 : Lay := { size := 10, agg := true, zero := [.lit (.int .i64 0), .lit (.int .i64 0), nilS, nilS, .lit (.int .i64 0), .lit (.int .i64 0), .lit (.int .i64 0), nilS, nilS, nilS], fs := [(0, 9), (9, 1)], eqs := none, cv := [(2, (.tp (.ti .i64) (.tp (.ti .i64) (.ti .i64)), (62, false))), (3, (.tp (.ti .i64) (.tp (.ti .i64) (.ti .i64)), (99, false))), (7, (.tp (.ti .i64) (.tp (.ti .i64) (.ti .i64)), (67, false))), (8, (.ti .i64, (3, false))), (9, (.tp (.tp (.ti .i64) (.tp (.tl (.tp (.ti .i64) (.tp (.tp (.ti .i64) (.ti .i64)) (.ti .i64)))) (.tp (.tl (.tp (.ti .i64) (.tp (.ti .i64) (.tp (.ti .i64) (.tp (.ti .i64) (.tp (.ti .i64) (.tp (.tp (.ti .i64) (.ti .i64)) (.tp (.tp (.ti .i64) (.tp (.ti .i64) (.ti .i64))) (.tp (.ti .i64) (.tp (.ti .i64) (.ti .i64))))))))))) (.tl (.tp (.ti .i64) (.tp (.ti .i64) (.tp (.ti .i64) (.tp (.ti .i64) (.tp (.ti .i64) (.tp (.tp (.ti .i64) (.ti .i64)) (.tp (.tp (.ti .i64) (.ti .i64)) (.tp (.ti .i64) (.tp (.ti .i64) (.ti .i64)))))))))))))) (.tp (.tp (.ti .i64) (.tp (.tl (.tp (.ti .i64) (.tp (.ti .i64) (.ti .i64)))) (.tp (.tl (.tp (.ti .i64) (.tp (.ti .i64) (.ti .i64)))) (.tp (.tp (.ti .i64) (.tp (.ti .i64) (.ti .i64))) (.tl (.tp (.ti .i64) (.tp (.ti .i64) (.ti .i64)))))))) (.tl (.tp (.ti .i64) (.tp (.ti .i64) (.ti .i64))))), (59, false)))], cz := [(2, .tp (.ti .i64) (.tp (.ti .i64) (.ti .i64))), (3, .tp (.ti .i64) (.tp (.ti .i64) (.ti .i64))), (7, .tp (.ti .i64) (.tp (.ti .i64) (.ti .i64))), (8, .ti .i64), (9, .tp (.tp (.ti .i64) (.tp (.tl (.tp (.ti .i64) (.tp (.tp (.ti .i64) (.ti .i64)) (.ti .i64)))) (.tp (.tl (.tp (.ti .i64) (.tp (.ti .i64) (.tp (.ti .i64) (.tp (.ti .i64) (.tp (.ti .i64) (.tp (.tp (.ti .i64) (.ti .i64)) (.tp (.tp (.ti .i64) (.tp (.ti .i64) (.ti .i64))) (.tp (.ti .i64) (.tp (.ti .i64) (.ti .i64))))))))))) (.tl (.tp (.ti .i64) (.tp (.ti .i64) (.tp (.ti .i64) (.tp (.ti .i64) (.tp (.ti .i64) (.tp (.tp (.ti .i64) (.ti .i64)) (.tp (.tp (.ti .i64) (.ti .i64)) (.tp (.ti .i64) (.tp (.ti .i64) (.ti .i64)))))))))))))) (.tp (.tp (.ti .i64) (.tp (.tl (.tp (.ti .i64) (.tp (.ti .i64) (.ti .i64)))) (.tp (.tl (.tp (.ti .i64) (.tp (.ti .i64) (.ti .i64)))) (.tp (.tp (.ti .i64) (.tp (.ti .i64) (.ti .i64))) (.tl (.tp (.ti .i64) (.tp (.ti .i64) (.ti .i64)))))))) (.tl (.tp (.ti .i64) (.tp (.ti .i64) (.ti .i64))))))] }
theorem lay76 : LayOk Try.prog 76 y76 := layStruct (zs := [.int .i64 0, .int .i64 0, .slice none 0 0, .slice none 0 0, .int .i64 0, .int .i64 0, .int .i64 0, .slice none 0 0, .slice none 0 0, .slice none 0 0]) (by kernel_rfl) rfl (by kernel_rfl) (by kernel_rfl) (by decide) (fun ks h => by cases h)
abbrev y77 : Lay := y76
theorem lay77 : LayOk Try.prog 77 y77 := layStruct (zs := [.int .i64 0, .int .i64 0, .slice none 0 0, .slice none 0 0, .int .i64 0, .int .i64 0, .int .i64 0, .slice none 0 0, .slice none 0 0, .slice none 0 0]) (by kernel_rfl) rfl (by kernel_rfl) (by kernel_rfl) (by decide) (fun ks h => by cases h)
abbrev y78 : Lay := y1
theorem lay78 : LayOk Try.prog 78 y78 := layFn (d := (Try.prog.underlying 78).getD .bool) (by kernel_rfl) (by kernel_rfl) (by kernel_rfl)
abbrev y79 : Lay := y1
theorem lay79 : LayOk Try.prog 79 y79 := layFn (d := (Try.prog.underlying 79).getD .bool) (by kernel_rfl) (by kernel_rfl) (by kernel_rfl)
abbrev y81 : Lay := y1
theorem lay81 : LayOk Try.prog 81 y81 := layFn (d := (Try.prog.underlying 81).getD .bool) (by kernel_rfl) (by kernel_rfl) (by kernel_rfl)
abbrev y82 : Lay := y1
theorem lay82 : LayOk Try.prog 82 y82 := layFn (d := (Try.prog.underlying 82).getD .bool) (by kernel_rfl) (by kernel_rfl) (by kernel_rfl)
abbrev y83 : Lay := y1
theorem lay83 : LayOk Try.prog 83 y83 := layFn (d := (Try.prog.underlying 83).getD .bool) (by kernel_rfl) (by kernel_rfl) (by kernel_rfl)
abbrev y84 : Lay := { size := 7, agg := true, zero := [.lit (.int .i64 0), nilS, nilS, .lit (.int .i64 0), .lit (.int .i64 0), .lit (.int .i64 0), nilS], fs := [(0, 7)], eqs := none, cv := [(1, (.tp (.ti .i64) (.tp (.ti .i64) (.ti .i64)), (62, false))), (2, (.tp (.ti .i64) (.tp (.ti .i64) (.ti .i64)), (99, false))), (6, (.tp (.ti .i64) (.tp (.ti .i64) (.ti .i64)), (67, false)))], cz := [(1, .tp (.ti .i64) (.tp (.ti .i64) (.ti .i64))), (2, .tp (.ti .i64) (.tp (.ti .i64) (.ti .i64))), (6, .tp (.ti .i64) (.tp (.ti .i64) (.ti .i64)))] }
theorem lay84 : LayOk Try.prog 84 y84 := layStruct (zs := [.int .i64 0, .slice none 0 0, .slice none 0 0, .int .i64 0, .int .i64 0, .int .i64 0, .slice none 0 0]) (by kernel_rfl) rfl (by kernel_rfl) (by kernel_rfl) (by decide) (fun ks h => by cases h)
abbrev y85 : Lay := y84
theorem lay85 : LayOk Try.prog 85 y85 := layStruct (zs := [.int .i64 0, .slice none 0 0, .slice none 0 0, .int .i64 0, .int .i64 0, .int .i64 0, .slice none 0 0]) (by kernel_rfl) rfl (by kernel_rfl) (by kernel_rfl) (by decide) (fun ks h => by cases h)
abbrev y86 : Lay := { size := 2, agg := true, zero := [.lit (.int .i64 0), .lit (.int .i64 0)], fs := [(0, 1), (1, 1)], eqs := some [.i, .i] }
theorem lay86 : LayOk Try.prog 86 y86 := layStruct (zs := [.int .i64 0, .int .i64 0]) (by kernel_rfl) rfl (by kernel_rfl) (by kernel_rfl) (by decide) (fun ks h => by injection h with h; subst h; exact ⟨by kernel_rfl, by kernel_rfl⟩)
abbrev y87 : Lay := y86
theorem lay87 : LayOk Try.prog 87 y87 := layStruct (zs := [.int .i64 0, .int .i64 0]) (by kernel_rfl) rfl (by kernel_rfl) (by kernel_rfl) (by decide) (fun ks h => by injection h with h; subst h; exact ⟨by kernel_rfl, by kernel_rfl⟩)
abbrev y88 : Lay := { size := 4, agg := true, zero := [.lit (.int .i64 0), .lit (.int .i64 0), .lit (.int .i64 0), .lit (.int .i64 0)], fs := [(0, 1), (1, 2), (3, 1)], eqs := some [.i, .i, .i, .i] }
theorem lay88 : LayOk Try.prog 88 y88 := layStruct (zs := [.int .i64 0, .int .i64 0, .int .i64 0, .int .i64 0]) (by kernel_rfl) rfl (by kernel_rfl) (by kernel_rfl) (by decide) (fun ks h => by injection h with h; subst h; exact ⟨by kernel_rfl, by kernel_rfl⟩)
abbrev y89 : Lay := y88
theorem lay89 : LayOk Try.prog 89 y89 := layStruct (zs := [.int .i64 0, .int .i64 0, .int .i64 0, .int .i64 0]) (by kernel_rfl) rfl (by kernel_rfl) (by kernel_rfl) (by decide) (fun ks h => by injection h with h; subst h; exact ⟨by kernel_rfl, by kernel_rfl⟩)
abbrev y90 : Lay := y1
theorem lay90 : LayOk Try.prog 90 y90 := layFn (d := (Try.prog.underlying 90).getD .bool) (by kernel_rfl) (by kernel_rfl) (by kernel_rfl)
abbrev y91 : Lay := y1
theorem lay91 : LayOk Try.prog 91 y91 := layFn (d := (Try.prog.underlying 91).getD .bool) (by kernel_rfl) (by kernel_rfl) (by kernel_rfl)
abbrev y92 : Lay := { zero := [.lit (.map none)], fmt := some (false, [.lit .nilFunc]) }
theorem lay92 : LayOk Try.prog 92 y92 := layFm 3 90 1 (false, [.lit .nilFunc]) (.nilFunc) (by kernel_rfl) (by kernel_rfl) (by kernel_rfl) (by kernel_rfl) (by kernel_rfl) (by kernel_rfl) (fun h => by cases h) (fun _ => ⟨rfl, _, rfl⟩)
abbrev y94 : Lay := y1
theorem lay94 : LayOk Try.prog 94 y94 := layFn (d := (Try.prog.underlying 94).getD .bool) (by kernel_rfl) (by kernel_rfl) (by kernel_rfl)
abbrev y95 : Lay := y1
theorem lay95 : LayOk Try.prog 95 y95 := layFn (d := (Try.prog.underlying 95).getD .bool) (by kernel_rfl) (by kernel_rfl) (by kernel_rfl)
abbrev y96 : Lay := y1
theorem lay96 : LayOk Try.prog 96 y96 := layFn (d := (Try.prog.underlying 96).getD .bool) (by kernel_rfl) (by kernel_rfl) (by kernel_rfl)
abbrev y97 : Lay := y1
theorem lay97 : LayOk Try.prog 97 y97 := layFn (d := (Try.prog.underlying 97).getD .bool) (by kernel_rfl) (by kernel_rfl) (by kernel_rfl)
abbrev y98 : Lay := y1
theorem lay98 : LayOk Try.prog 98 y98 := layFn (d := (Try.prog.underlying 98).getD .bool) (by kernel_rfl) (by kernel_rfl) (by kernel_rfl)
abbrev y99 : Lay := y34
theorem lay99 : LayOk Try.prog 99 y99 := layStruct (zs := [.int .i64 0, .int .i64 0, .int .i64 0]) (by kernel_rfl) rfl (by kernel_rfl) (by kernel_rfl) (by decide) (fun ks h => by injection h with h; subst h; exact ⟨by kernel_rfl, by kernel_rfl⟩)
abbrev y100 : Lay := y1
theorem lay100 : LayOk Try.prog 100 y100 := layFn (d := (Try.prog.underlying 100).getD .bool) (by kernel_rfl) (by kernel_rfl) (by kernel_rfl)
abbrev y101 : Lay := y1
theorem lay101 : LayOk Try.prog 101 y101 := layFn (d := (Try.prog.underlying 101).getD .bool) (by kernel_rfl) (by kernel_rfl) (by kernel_rfl)
abbrev y102 : Lay := y1
theorem lay102 : LayOk Try.prog 102 y102 := layFn (d := (Try.prog.underlying 102).getD .bool) (by kernel_rfl) (by kernel_rfl) (by kernel_rfl)
abbrev y103 : Lay := y1
theorem lay103 : LayOk Try.prog 103 y103 := layFn (d := (Try.prog.underlying 103).getD .bool) (by kernel_rfl) (by kernel_rfl) (by kernel_rfl)
abbrev y104 : Lay := y1
theorem lay104 : LayOk Try.prog 104 y104 := layFn (d := (Try.prog.underlying 104).getD .bool) (by kernel_rfl) (by kernel_rfl) (by kernel_rfl)
abbrev y105 : Lay := { zero := [.lit (.map none)], mpt := some (.tp (.ti .i64) (.tp (.ti .i64) (.ti .i64)), .tb) }
theorem lay105 : LayOk Try.prog 105 y105 := layMap 67 4 (.tp (.ti .i64) (.tp (.ti .i64) (.ti .i64))) (.tb) (.bool false) (by kernel_rfl) (by kernel_rfl) (by kernel_rfl) (by kernel_rfl) (by kernel_rfl) (by kernel_rfl) (by kernel_rfl) (fun h => by cases h) (fun _ => rfl)
abbrev y106 : Lay := y1
theorem lay106 : LayOk Try.prog 106 y106 := layFn (d := (Try.prog.underlying 106).getD .bool) (by kernel_rfl) (by kernel_rfl) (by kernel_rfl)
abbrev y107 : Lay := y1
theorem lay107 : LayOk Try.prog 107 y107 := layFn (d := (Try.prog.underlying 107).getD .bool) (by kernel_rfl) (by kernel_rfl) (by kernel_rfl)
abbrev y108 : Lay := y1
theorem lay108 : LayOk Try.prog 108 y108 := layFn (d := (Try.prog.underlying 108).getD .bool) (by kernel_rfl) (by kernel_rfl) (by kernel_rfl)
abbrev y109 : Lay := y1
theorem lay109 : LayOk Try.prog 109 y109 := layFn (d := (Try.prog.underlying 109).getD .bool) (by kernel_rfl) (by kernel_rfl) (by kernel_rfl)
abbrev y110 : Lay := y1
theorem lay110 : LayOk Try.prog 110 y110 := layFn (d := (Try.prog.underlying 110).getD .bool) (by kernel_rfl) (by kernel_rfl) (by kernel_rfl)
abbrev y111 : Lay := y1
theorem lay111 : LayOk Try.prog 111 y111 := layFn (d := (Try.prog.underlying 111).getD .bool) (by kernel_rfl) (by kernel_rfl) (by kernel_rfl)
abbrev y112 : Lay := y1
theorem lay112 : LayOk Try.prog 112 y112 := layFn (d := (Try.prog.underlying 112).getD .bool) (by kernel_rfl) (by kernel_rfl) (by kernel_rfl)
abbrev y113 : Lay := y1
theorem lay113 : LayOk Try.prog 113 y113 := layFn (d := (Try.prog.underlying 113).getD .bool) (by kernel_rfl) (by kernel_rfl) (by kernel_rfl)
abbrev y114 : Lay := y1
theorem lay114 : LayOk Try.prog 114 y114 := layFn (d := (Try.prog.underlying 114).getD .bool) (by kernel_rfl) (by kernel_rfl) (by kernel_rfl)
abbrev y115 : Lay := y1
theorem lay115 : LayOk Try.prog 115 y115 := layFn (d := (Try.prog.underlying 115).getD .bool) (by kernel_rfl) (by kernel_rfl) (by kernel_rfl)
abbrev y117 : Lay := y1
theorem lay117 : LayOk Try.prog 117 y117 := layFn (d := (Try.prog.underlying 117).getD .bool) (by kernel_rfl) (by kernel_rfl) (by kernel_rfl)
abbrev y118 : Lay := y1
theorem lay118 : LayOk Try.prog 118 y118 := layFn (d := (Try.prog.underlying 118).getD .bool) (by kernel_rfl) (by kernel_rfl) (by kernel_rfl)
abbrev y119 : Lay := y1
theorem lay119 : LayOk Try.prog 119 y119 := layFn (d := (Try.prog.underlying 119).getD .bool) (by kernel_rfl) (by kernel_rfl) (by kernel_rfl)
abbrev y120 : Lay := y1
theorem lay120 : LayOk Try.prog 120 y120 := layFn (d := (Try.prog.underlying 120).getD .bool) (by kernel_rfl) (by kernel_rfl) (by kernel_rfl)
abbrev y121 : Lay := y1
theorem lay121 : LayOk Try.prog 121 y121 := layFn (d := (Try.prog.underlying 121).getD .bool) (by kernel_rfl) (by kernel_rfl) (by kernel_rfl)
abbrev y122 : Lay := y1
theorem lay122 : LayOk Try.prog 122 y122 := layFn (d := (Try.prog.underlying 122).getD .bool) (by kernel_rfl) (by kernel_rfl) (by kernel_rfl)
abbrev y123 : Lay := y1
theorem lay123 : LayOk Try.prog 123 y123 := layFn (d := (Try.prog.underlying 123).getD .bool) (by kernel_rfl) (by kernel_rfl) (by kernel_rfl)
abbrev y124 : Lay := y1
theorem lay124 : LayOk Try.prog 124 y124 := layFn (d := (Try.prog.underlying 124).getD .bool) (by kernel_rfl) (by kernel_rfl) (by kernel_rfl)
abbrev y125 : Lay := y1
theorem lay125 : LayOk Try.prog 125 y125 := layFn (d := (Try.prog.underlying 125).getD .bool) (by kernel_rfl) (by kernel_rfl) (by kernel_rfl)
abbrev y126 : Lay := { zero := [.lit (.map none)], mpt := some (.ti .i64, .ti .i64) }
theorem lay126 : LayOk Try.prog 126 y126 := layMap 3 3 (.ti .i64) (.ti .i64) (.int .i64 0) (by kernel_rfl) (by kernel_rfl) (by kernel_rfl) (by kernel_rfl) (by kernel_rfl) (by kernel_rfl) (by kernel_rfl) (fun h => by cases h) (fun _ => rfl)
abbrev y127 : Lay := y86
theorem lay127 : LayOk Try.prog 127 y127 := layStruct (zs := [.int .i64 0, .int .i64 0]) (by kernel_rfl) rfl (by kernel_rfl) (by kernel_rfl) (by decide) (fun ks h => by injection h with h; subst h; exact ⟨by kernel_rfl, by kernel_rfl⟩)
abbrev y128 : Lay := y86
theorem lay128 : LayOk Try.prog 128 y128 := layStruct (zs := [.int .i64 0, .int .i64 0]) (by kernel_rfl) rfl (by kernel_rfl) (by kernel_rfl) (by decide) (fun ks h => by injection h with h; subst h; exact ⟨by kernel_rfl, by kernel_rfl⟩)
abbrev y129 : Lay := y1
theorem lay129 : LayOk Try.prog 129 y129 := layFn (d := (Try.prog.underlying 129).getD .bool) (by kernel_rfl) (by kernel_rfl) (by kernel_rfl)
abbrev y130 : Lay := y1
theorem lay130 : LayOk Try.prog 130 y130 := layFn (d := (Try.prog.underlying 130).getD .bool) (by kernel_rfl) (by kernel_rfl) (by kernel_rfl)
abbrev y131 : Lay := y1
theorem lay131 : LayOk Try.prog 131 y131 := layFn (d := (Try.prog.underlying 131).getD .bool) (by kernel_rfl) (by kernel_rfl) (by kernel_rfl)
abbrev y132 : Lay := y1
theorem lay132 : LayOk Try.prog 132 y132 := layFn (d := (Try.prog.underlying 132).getD .bool) (by kernel_rfl) (by kernel_rfl) (by kernel_rfl)
abbrev y133 : Lay := y1
theorem lay133 : LayOk Try.prog 133 y133 := layFn (d := (Try.prog.underlying 133).getD .bool) (by kernel_rfl) (by kernel_rfl) (by kernel_rfl)
abbrev y134 : Lay := y1
theorem lay134 : LayOk Try.prog 134 y134 := layFn (d := (Try.prog.underlying 134).getD .bool) (by kernel_rfl) (by kernel_rfl) (by kernel_rfl)
abbrev y135 : Lay := y12
theorem lay135 : LayOk Try.prog 135 y135 := layInt .u64 (by kernel_rfl) (by kernel_rfl)
abbrev y136 : Lay := y1
theorem lay136 : LayOk Try.prog 136 y136 := layFn (d := (Try.prog.underlying 136).getD .bool) (by kernel_rfl) (by kernel_rfl) (by kernel_rfl)
abbrev y137 : Lay := y1
theorem lay137 : LayOk Try.prog 137 y137 := layFn (d := (Try.prog.underlying 137).getD .bool) (by kernel_rfl) (by kernel_rfl) (by kernel_rfl)
abbrev y138 : Lay := y1
theorem lay138 : LayOk Try.prog 138 y138 := layFn (d := (Try.prog.underlying 138).getD .bool) (by kernel_rfl) (by kernel_rfl) (by kernel_rfl)
abbrev y139 : Lay := y1
theorem lay139 : LayOk Try.prog 139 y139 := layFn (d := (Try.prog.underlying 139).getD .bool) (by kernel_rfl) (by kernel_rfl) (by kernel_rfl)
abbrev y140 : Lay := y1
theorem lay140 : LayOk Try.prog 140 y140 := layFn (d := (Try.prog.underlying 140).getD .bool) (by kernel_rfl) (by kernel_rfl) (by kernel_rfl)
abbrev y141 : Lay := y1
theorem lay141 : LayOk Try.prog 141 y141 := layFn (d := (Try.prog.underlying 141).getD .bool) (by kernel_rfl) (by kernel_rfl) (by kernel_rfl)
abbrev y142 : Lay := y1
theorem lay142 : LayOk Try.prog 142 y142 := layFn (d := (Try.prog.underlying 142).getD .bool) (by kernel_rfl) (by kernel_rfl) (by kernel_rfl)
abbrev y143 : Lay := y1
theorem lay143 : LayOk Try.prog 143 y143 := layFn (d := (Try.prog.underlying 143).getD .bool) (by kernel_rfl) (by kernel_rfl) (by kernel_rfl)
abbrev y144 : Lay := y1
theorem lay144 : LayOk Try.prog 144 y144 := layFn (d := (Try.prog.underlying 144).getD .bool) (by kernel_rfl) (by kernel_rfl) (by kernel_rfl)
abbrev y145 : Lay := y1
theorem lay145 : LayOk Try.prog 145 y145 := layFn (d := (Try.prog.underlying 145).getD .bool) (by kernel_rfl) (by kernel_rfl) (by kernel_rfl)
abbrev y151 : Lay := y1
theorem lay151 : LayOk Try.prog 151 y151 := layFn (d := (Try.prog.underlying 151).getD .bool) (by kernel_rfl) (by kernel_rfl) (by kernel_rfl)
abbrev y152 : Lay := { zero := [.lit (.int .u32 0)], kind := some .u32 }
theorem lay152 : LayOk Try.prog 152 y152 := layInt .u32 (by kernel_rfl) (by kernel_rfl)
abbrev y155 : Lay := y1
theorem lay155 : LayOk Try.prog 155 y155 := layFn (d := (Try.prog.underlying 155).getD .bool) (by kernel_rfl) (by kernel_rfl) (by kernel_rfl)
abbrev y156 : Lay := y68
theorem lay156 : LayOk Try.prog 156 y156 := layOne (d := (Try.prog.underlying 156).getD .bool) (z := .pointer none) (k := none) (by kernel_rfl) (by kernel_rfl) (by kernel_rfl) (fun _ _ => .lit rfl) (fun q h => by cases h)
abbrev y161 : Lay := y86
theorem lay161 : LayOk Try.prog 161 y161 := layStruct (zs := [.int .i64 0, .int .i64 0]) (by kernel_rfl) rfl (by kernel_rfl) (by kernel_rfl) (by decide) (fun ks h => by injection h with h; subst h; exact ⟨by kernel_rfl, by kernel_rfl⟩)
abbrev y162 : Lay := y86
theorem lay162 : LayOk Try.prog 162 y162 := layStruct (zs := [.int .i64 0, .int .i64 0]) (by kernel_rfl) rfl (by kernel_rfl) (by kernel_rfl) (by decide) (fun ks h => by injection h with h; subst h; exact ⟨by kernel_rfl, by kernel_rfl⟩)
abbrev y163 : Lay := y34
theorem lay163 : LayOk Try.prog 163 y163 := layStruct (zs := [.int .i64 0, .int .i64 0, .int .i64 0]) (by kernel_rfl) rfl (by kernel_rfl) (by kernel_rfl) (by decide) (fun ks h => by injection h with h; subst h; exact ⟨by kernel_rfl, by kernel_rfl⟩)
abbrev y164 : Lay := y34
theorem lay164 : LayOk Try.prog 164 y164 := layStruct (zs := [.int .i64 0, .int .i64 0, .int .i64 0]) (by kernel_rfl) rfl (by kernel_rfl) (by kernel_rfl) (by decide) (fun ks h => by injection h with h; subst h; exact ⟨by kernel_rfl, by kernel_rfl⟩)
abbrev y165 : Lay := { size := 13, agg := true, zero := [.lit (.int .i64 0), .lit (.int .i64 0), .lit (.int .i64 0), .lit (.int .i64 0), .lit (.int .i64 0), .lit (.int .i64 0), .lit (.int .i64 0), .lit (.int .i64 0), .lit (.int .i64 0), .lit (.int .i64 0), .lit (.int .i64 0), .lit (.int .i64 0), .lit (.int .i64 0)], fs := [(0, 1), (1, 1), (2, 1), (3, 1), (4, 1), (5, 2), (7, 3), (10, 3)], eqs := some [.i, .i, .i, .i, .i, .i, .i, .i, .i, .i, .i, .i, .i] }
theorem lay165 : LayOk Try.prog 165 y165 := layStruct (zs := [.int .i64 0, .int .i64 0, .int .i64 0, .int .i64 0, .int .i64 0, .int .i64 0, .int .i64 0, .int .i64 0, .int .i64 0, .int .i64 0, .int .i64 0, .int .i64 0, .int .i64 0]) (by kernel_rfl) rfl (by kernel_rfl) (by kernel_rfl) (by decide) (fun ks h => by injection h with h; subst h; exact ⟨by kernel_rfl, by kernel_rfl⟩)
abbrev y166 : Lay := y165
theorem lay166 : LayOk Try.prog 166 y166 := layStruct (zs := [.int .i64 0, .int .i64 0, .int .i64 0, .int .i64 0, .int .i64 0, .int .i64 0, .int .i64 0, .int .i64 0, .int .i64 0, .int .i64 0, .int .i64 0, .int .i64 0, .int .i64 0]) (by kernel_rfl) rfl (by kernel_rfl) (by kernel_rfl) (by decide) (fun ks h => by injection h with h; subst h; exact ⟨by kernel_rfl, by kernel_rfl⟩)
abbrev y167 : Lay := { size := 12, agg := true, zero := [.lit (.int .i64 0), .lit (.int .i64 0), .lit (.int .i64 0), .lit (.int .i64 0), .lit (.int .i64 0), .lit (.int .i64 0), .lit (.int .i64 0), .lit (.int .i64 0), .lit (.int .i64 0), .lit (.int .i64 0), .lit (.int .i64 0), .lit (.int .i64 0)], fs := [(0, 1), (1, 1), (2, 1), (3, 1), (4, 1), (5, 2), (7, 2), (9, 3)], eqs := some [.i, .i, .i, .i, .i, .i, .i, .i, .i, .i, .i, .i] }
theorem lay167 : LayOk Try.prog 167 y167 := layStruct (zs := [.int .i64 0, .int .i64 0, .int .i64 0, .int .i64 0, .int .i64 0, .int .i64 0, .int .i64 0, .int .i64 0, .int .i64 0, .int .i64 0, .int .i64 0, .int .i64 0]) (by kernel_rfl) rfl (by kernel_rfl) (by kernel_rfl) (by decide) (fun ks h => by injection h with h; subst h; exact ⟨by kernel_rfl, by kernel_rfl⟩)
abbrev y168 : Lay := y167
theorem lay168 : LayOk Try.prog 168 y168 := layStruct (zs := [.int .i64 0, .int .i64 0, .int .i64 0, .int .i64 0, .int .i64 0, .int .i64 0, .int .i64 0, .int .i64 0, .int .i64 0, .int .i64 0, .int .i64 0, .int .i64 0]) (by kernel_rfl) rfl (by kernel_rfl) (by kernel_rfl) (by decide) (fun ks h => by injection h with h; subst h; exact ⟨by kernel_rfl, by kernel_rfl⟩)
abbrev y169 : Lay := { size := 3, agg := true, zero := [.lit (.int .i64 0), .lit (.int .i64 0), .lit (.int .i64 0)], fs := [(0, 1), (1, 2)], eqs := some [.i, .i, .i] }
theorem lay169 : LayOk Try.prog 169 y169 := layStruct (zs := [.int .i64 0, .int .i64 0, .int .i64 0]) (by kernel_rfl) rfl (by kernel_rfl) (by kernel_rfl) (by decide) (fun ks h => by injection h with h; subst h; exact ⟨by kernel_rfl, by kernel_rfl⟩)
abbrev y170 : Lay := y169
theorem lay170 : LayOk Try.prog 170 y170 := layStruct (zs := [.int .i64 0, .int .i64 0, .int .i64 0]) (by kernel_rfl) rfl (by kernel_rfl) (by kernel_rfl) (by decide) (fun ks h => by injection h with h; subst h; exact ⟨by kernel_rfl, by kernel_rfl⟩)
def L0 : Nat → Option Lay := Sy.look [(1, y1), (2, y2), (3, y3), (4, y4), (5, y5), (9, y9), (12, y12), (21, y21), (22, y22), (23, y23), (24, y24), (25, y25), (26, y26), (27, y27), (28, y28), (30, y30), (31, y31), (32, y32), (33, y33), (34, y34), (35, y35), (36, y36), (37, y37), (38, y38), (39, y39), (40, y40), (41, y41), (43, y43), (44, y44), (45, y45), (46, y46), (47, y47), (48, y48), (49, y49), (50, y50), (51, y51), (52, y52), (53, y53), (54, y54), (55, y55), (56, y56), (57, y57), (58, y58), (59, y59), (60, y60), (61, y61), (62, y62), (63, y63), (64, y64), (65, y65), (66, y66), (67, y67), (68, y68), (70, y70), (71, y71), (72, y72), (73, y73), (74, y74), (75, y75), (76, y76), (77, y77), (78, y78), (79, y79), (81, y81), (82, y82), (83, y83), (84, y84), (85, y85), (86, y86), (87, y87), (88, y88), (89, y89), (90, y90), (91, y91), (92, y92), (94, y94), (95, y95), (96, y96), (97, y97), (98, y98), (99, y99), (100, y100), (101, y101), (102, y102), (103, y103), (104, y104), (105, y105), (106, y106), (107, y107), (108, y108), (109, y109), (110, y110), (111, y111), (112, y112), (113, y113), (114, y114), (115, y115), (117, y117), (118, y118), (119, y119), (120, y120), (121, y121), (122, y122), (123, y123), (124, y124), (125, y125), (126, y126), (127, y127), (128, y128), (129, y129), (130, y130), (131, y131), (132, y132), (133, y133), (134, y134), (135, y135), (136, y136), (137, y137), (138, y138), (139, y139), (140, y140), (141, y141), (142, y142), (143, y143), (144, y144), (145, y145), (151, y151), (152, y152), (155, y155), (156, y156), (161, y161), (162, y162), (163, y163), (164, y164), (165, y165), (166, y166), (167, y167), (168, y168), (169, y169), (170, y170)]
theorem L0_ok : LOk Try.prog L0 := by
  refine look_ok fun q hq => ?_
  simp only [List.mem_cons, List.not_mem_nil, or_false] at hq
  rcases hq with rfl | rfl | rfl | rfl | rfl | rfl | rfl | rfl | rfl | rfl | rfl | rfl | rfl | rfl | rfl | rfl | rfl | rfl | rfl | rfl | rfl | rfl | rfl | rfl | rfl | rfl | rfl | rfl | rfl | rfl | rfl | rfl | rfl | rfl | rfl | rfl | rfl | rfl | rfl | rfl | rfl | rfl | rfl | rfl | rfl | rfl | rfl | rfl | rfl | rfl | rfl | rfl | rfl | rfl | rfl | rfl | rfl | rfl | rfl | rfl | rfl | rfl | rfl | rfl | rfl | rfl | rfl | rfl | rfl | rfl | rfl | rfl | rfl | rfl | rfl | rfl | rfl | rfl | rfl | rfl | rfl | rfl | rfl | rfl | rfl | rfl | rfl | rfl | rfl | rfl | rfl | rfl | rfl | rfl | rfl | rfl | rfl | rfl | rfl | rfl | rfl | rfl | rfl | rfl | rfl | rfl | rfl | rfl | rfl | rfl | rfl | rfl | rfl | rfl | rfl | rfl | rfl | rfl | rfl | rfl | rfl | rfl | rfl | rfl | rfl | rfl | rfl | rfl | rfl | rfl | rfl | rfl | rfl | rfl | rfl | rfl | rfl | rfl | rfl | rfl
  · exact lay1
  · exact lay2
  · exact lay3
  · exact lay4
  · exact lay5
  · exact lay9
  · exact lay12
  · exact lay21
  · exact lay22
  · exact lay23
  · exact lay24
  · exact lay25
  · exact lay26
  · exact lay27
  · exact lay28
  · exact lay30
  · exact lay31
  · exact lay32
  · exact lay33
  · exact lay34
  · exact lay35
  · exact lay36
  · exact lay37
  · exact lay38
  · exact lay39
  · exact lay40
  · exact lay41
  · exact lay43
  · exact lay44
  · exact lay45
  · exact lay46
  · exact lay47
  · exact lay48
  · exact lay49
  · exact lay50
  · exact lay51
  · exact lay52
  · exact lay53
  · exact lay54
  · exact lay55
  · exact lay56
  · exact lay57
  · exact lay58
  · exact lay59
  · exact lay60
  · exact lay61
  · exact lay62
  · exact lay63
  · exact lay64
  · exact lay65
  · exact lay66
  · exact lay67
  · exact lay68
  · exact lay70
  · exact lay71
  · exact lay72
  · exact lay73
  · exact lay74
  · exact lay75
  · exact lay76
  · exact lay77
  · exact lay78
  · exact lay79
  · exact lay81
  · exact lay82
  · exact lay83
  · exact lay84
  · exact lay85
  · exact lay86
  · exact lay87
  · exact lay88
  · exact lay89
  · exact lay90
  · exact lay91
  · exact lay92
  · exact lay94
  · exact lay95
  · exact lay96
  · exact lay97
  · exact lay98
  · exact lay99
  · exact lay100
  · exact lay101
  · exact lay102
  · exact lay103
  · exact lay104
  · exact lay105
  · exact lay106
  · exact lay107
  · exact lay108
  · exact lay109
  · exact lay110
  · exact lay111
  · exact lay112
  · exact lay113
  · exact lay114
  · exact lay115
  · exact lay117
  · exact lay118
  · exact lay119
  · exact lay120
  · exact lay121
  · exact lay122
  · exact lay123
  · exact lay124
  · exact lay125
  · exact lay126
  · exact lay127
  · exact lay128
  · exact lay129
  · exact lay130
  · exact lay131
  · exact lay132
  · exact lay133
  · exact lay134
  · exact lay135
  · exact lay136
  · exact lay137
  · exact lay138
  · exact lay139
  · exact lay140
  · exact lay141
  · exact lay142
  · exact lay143
  · exact lay144
  · exact lay145
  · exact lay151
  · exact lay152
  · exact lay155
  · exact lay156
  · exact lay161
  · exact lay162
  · exact lay163
  · exact lay164
  · exact lay165
  · exact lay166
  · exact lay167
  · exact lay168
  · exact lay169
  · exact lay170
def LV (os vs : List Nat) (wr : Bool) : Nat → Option Lay := LVar L0 os vs wr
theorem LV_ok (os vs : List Nat) (wr : Bool) : LOk Try.prog (LV os vs wr) := LVar_ok L0_ok os vs wr
def L : Nat → Option Lay := LV [] [] false
theorem L_ok : LOk Try.prog L := LV_ok [] [] false
theorem mixed : Try.prog.follows .mixedOrders = true := by kernel_rfl
end Go.Proofs.Ytcklbglladijlaa
