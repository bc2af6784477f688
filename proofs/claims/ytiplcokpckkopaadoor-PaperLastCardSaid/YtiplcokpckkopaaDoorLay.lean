/- The layouts of this seat's types, each proved by closed facts off the loaded program. Written by a program (wip/tools/lay.py). -/
import Derived.Test.YtiplcokpckkopaaDoorSyX
import Derived.Test.YtiplcokpckkopaaDoorProg
namespace Go.Proofs.YtiplcokpckkopaaDoor
open Go.Sy
set_option linter.unusedVariables false
abbrev y1 : Lay := { zero := [.lit .nilFunc] }
theorem lay1 : LayOk Tryd.prog 1 y1 := layFn (d := (Tryd.prog.underlying 1).getD .bool) (by kernel_rfl) (by kernel_rfl) (by kernel_rfl)
abbrev y2 : Lay := { zero := [.lit (.int .i64 0)], kind := some .i64 }
theorem lay2 : LayOk Tryd.prog 2 y2 := layInt .i64 (by kernel_rfl) (by kernel_rfl)
abbrev y3 : Lay := y2
theorem lay3 : LayOk Tryd.prog 3 y3 := layInt .i64 (by kernel_rfl) (by kernel_rfl)
abbrev y4 : Lay := { zero := [.lit (.bool false)], eqs := some [.b] }
theorem lay4 : LayOk Tryd.prog 4 y4 := layBool (by kernel_rfl) (by kernel_rfl) (by kernel_rfl)
abbrev y5 : Lay := { zero := [.lit (.int .u8 0)], kind := some .u8 }
theorem lay5 : LayOk Tryd.prog 5 y5 := layInt .u8 (by kernel_rfl) (by kernel_rfl)
abbrev y9 : Lay := { zero := [.lit (.string ByteArray.empty)], sk := 1 }
theorem lay9 : LayOk Tryd.prog 9 y9 := laySk 1 (layStr (by kernel_rfl) (by kernel_rfl)) (sk1 (by kernel_rfl))
abbrev y12 : Lay := { zero := [.lit (.int .u64 0)], kind := some .u64 }
theorem lay12 : LayOk Tryd.prog 12 y12 := layInt .u64 (by kernel_rfl) (by kernel_rfl)
abbrev y21 : Lay := { zero := [.lit (.int .i32 0)], kind := some .i32 }
theorem lay21 : LayOk Tryd.prog 21 y21 := layInt .i32 (by kernel_rfl) (by kernel_rfl)
abbrev y22 : Lay := { zero := [.sl (.tp (.ti .i64) (.tp (.ti .i64) (.tp (.tp (.ti .i64) (.ti .i64)) (.tl (.tp (.ti .i64) (.tp (.ti .i64) (.tp (.ti .i64) (.tp (.tp (.ti .i64) (.ti .i64)) (.tp (.tp (.ti .i64) (.ti .i64)) (.tp (.ti .i64) (.tp (.ti .i64) (.ti .i64)))))))))))) []], el := some 5, ety := some (.tp (.ti .i64) (.tp (.ti .i64) (.tp (.tp (.ti .i64) (.ti .i64)) (.tl (.tp (.ti .i64) (.tp (.ti .i64) (.tp (.ti .i64) (.tp (.tp (.ti .i64) (.ti .i64)) (.tp (.tp (.ti .i64) (.ti .i64)) (.tp (.ti .i64) (.tp (.ti .i64) (.ti .i64))))))))))), 56, 56) }
theorem lay22 : LayOk Tryd.prog 22 y22 := laySlice 56 (.tp (.ti .i64) (.tp (.ti .i64) (.tp (.tp (.ti .i64) (.ti .i64)) (.tl (.tp (.ti .i64) (.tp (.ti .i64) (.tp (.ti .i64) (.tp (.tp (.ti .i64) (.ti .i64)) (.tp (.tp (.ti .i64) (.ti .i64)) (.tp (.ti .i64) (.tp (.ti .i64) (.ti .i64)))))))))))) 56 (by kernel_rfl) (by kernel_rfl) (by kernel_rfl) (by decide) (by decide)
abbrev y23 : Lay := { size := 2, agg := true, zero := [.lit (.int .i64 0), nilS], fs := [(0, 1), (1, 1)], eqs := none, cv := [(1, (.tp (.ti .i64) (.tp (.ti .i64) (.tp (.tp (.ti .i64) (.ti .i64)) (.tl (.tp (.ti .i64) (.tp (.ti .i64) (.tp (.ti .i64) (.tp (.tp (.ti .i64) (.ti .i64)) (.tp (.tp (.ti .i64) (.ti .i64)) (.tp (.ti .i64) (.tp (.ti .i64) (.ti .i64))))))))))), (56, false)))], cz := [(1, .tp (.ti .i64) (.tp (.ti .i64) (.tp (.tp (.ti .i64) (.ti .i64)) (.tl (.tp (.ti .i64) (.tp (.ti .i64) (.tp (.ti .i64) (.tp (.tp (.ti .i64) (.ti .i64)) (.tp (.tp (.ti .i64) (.ti .i64)) (.tp (.ti .i64) (.tp (.ti .i64) (.ti .i64))))))))))))] }
theorem lay23 : LayOk Tryd.prog 23 y23 := layStruct (zs := [.int .i64 0, .slice none 0 0]) (by kernel_rfl) rfl (by kernel_rfl) (by kernel_rfl) (by decide) (fun ks h => by cases h)
abbrev y24 : Lay := y23
theorem lay24 : LayOk Tryd.prog 24 y24 := layStruct (zs := [.int .i64 0, .slice none 0 0]) (by kernel_rfl) rfl (by kernel_rfl) (by kernel_rfl) (by decide) (fun ks h => by cases h)
abbrev y25 : Lay := { zero := [.sl (.tp (.ti .i64) (.ti .i64)) []], el := some 2, ety := some (.tp (.ti .i64) (.ti .i64), 52, 16) }
theorem lay25 : LayOk Tryd.prog 25 y25 := laySlice 52 (.tp (.ti .i64) (.ti .i64)) 16 (by kernel_rfl) (by kernel_rfl) (by kernel_rfl) (by decide) (by decide)
abbrev y26 : Lay := { size := 2, agg := true, zero := [.lit (.int .i64 0), .lit (.int .i64 0)], fs := [(0, 1), (1, 1)], eqs := some [.i, .i] }
theorem lay26 : LayOk Tryd.prog 26 y26 := layStruct (zs := [.int .i64 0, .int .i64 0]) (by kernel_rfl) rfl (by kernel_rfl) (by kernel_rfl) (by decide) (fun ks h => by injection h with h; subst h; exact ⟨by kernel_rfl, by kernel_rfl⟩)
abbrev y27 : Lay := y26
theorem lay27 : LayOk Tryd.prog 27 y27 := layStruct (zs := [.int .i64 0, .int .i64 0]) (by kernel_rfl) rfl (by kernel_rfl) (by kernel_rfl) (by decide) (fun ks h => by injection h with h; subst h; exact ⟨by kernel_rfl, by kernel_rfl⟩)
abbrev y28 : Lay := { zero := [.sl (.tp (.ti .i64) (.ti .i64)) []], el := some 2, ety := some (.tp (.ti .i64) (.ti .i64), 27, 16) }
theorem lay28 : LayOk Tryd.prog 28 y28 := laySlice 27 (.tp (.ti .i64) (.ti .i64)) 16 (by kernel_rfl) (by kernel_rfl) (by kernel_rfl) (by decide) (by decide)
abbrev y29 : Lay := y12
theorem lay29 : LayOk Tryd.prog 29 y29 := layInt .u64 (by kernel_rfl) (by kernel_rfl)
abbrev y30 : Lay := { size := 6, agg := true, zero := [.lit (.int .i64 0), .lit (.int .i64 0), .lit (.int .i64 0), .lit (.int .i64 0), .lit (.int .i64 0), .lit (.int .u64 0)], fs := [(0, 1), (1, 1), (2, 1), (3, 1), (4, 1), (5, 1)], eqs := some [.i, .i, .i, .i, .i, .i] }
theorem lay30 : LayOk Tryd.prog 30 y30 := layStruct (zs := [.int .i64 0, .int .i64 0, .int .i64 0, .int .i64 0, .int .i64 0, .int .u64 0]) (by kernel_rfl) rfl (by kernel_rfl) (by kernel_rfl) (by decide) (fun ks h => by injection h with h; subst h; exact ⟨by kernel_rfl, by kernel_rfl⟩)
abbrev y31 : Lay := y30
theorem lay31 : LayOk Tryd.prog 31 y31 := layStruct (zs := [.int .i64 0, .int .i64 0, .int .i64 0, .int .i64 0, .int .i64 0, .int .u64 0]) (by kernel_rfl) rfl (by kernel_rfl) (by kernel_rfl) (by decide) (fun ks h => by injection h with h; subst h; exact ⟨by kernel_rfl, by kernel_rfl⟩)
abbrev y32 : Lay := y1
theorem lay32 : LayOk Tryd.prog 32 y32 := layFn (d := (Tryd.prog.underlying 32).getD .bool) (by kernel_rfl) (by kernel_rfl) (by kernel_rfl)
abbrev y33 : Lay := y1
theorem lay33 : LayOk Tryd.prog 33 y33 := layFn (d := (Tryd.prog.underlying 33).getD .bool) (by kernel_rfl) (by kernel_rfl) (by kernel_rfl)
abbrev y34 : Lay := y2
theorem lay34 : LayOk Tryd.prog 34 y34 := layInt .i64 (by kernel_rfl) (by kernel_rfl)
abbrev y36 : Lay := y1
theorem lay36 : LayOk Tryd.prog 36 y36 := layFn (d := (Tryd.prog.underlying 36).getD .bool) (by kernel_rfl) (by kernel_rfl) (by kernel_rfl)
abbrev y37 : Lay := { zero := [.sl (.tp (.ti .i64) (.tp (.ti .i64) (.tp (.ti .i64) (.tp (.ti .i64) (.tp (.ti .i64) (.ti .u64)))))) []], el := some 6, ety := some (.tp (.ti .i64) (.tp (.ti .i64) (.tp (.ti .i64) (.tp (.ti .i64) (.tp (.ti .i64) (.ti .u64))))), 31, 48) }
theorem lay37 : LayOk Tryd.prog 37 y37 := laySlice 31 (.tp (.ti .i64) (.tp (.ti .i64) (.tp (.ti .i64) (.tp (.ti .i64) (.tp (.ti .i64) (.ti .u64)))))) 48 (by kernel_rfl) (by kernel_rfl) (by kernel_rfl) (by decide) (by decide)
abbrev y39 : Lay := y1
theorem lay39 : LayOk Tryd.prog 39 y39 := layFn (d := (Tryd.prog.underlying 39).getD .bool) (by kernel_rfl) (by kernel_rfl) (by kernel_rfl)
abbrev y40 : Lay := y1
theorem lay40 : LayOk Tryd.prog 40 y40 := layFn (d := (Tryd.prog.underlying 40).getD .bool) (by kernel_rfl) (by kernel_rfl) (by kernel_rfl)
abbrev y42 : Lay := y1
theorem lay42 : LayOk Tryd.prog 42 y42 := layFn (d := (Tryd.prog.underlying 42).getD .bool) (by kernel_rfl) (by kernel_rfl) (by kernel_rfl)
abbrev y43 : Lay := y1
theorem lay43 : LayOk Tryd.prog 43 y43 := layFn (d := (Tryd.prog.underlying 43).getD .bool) (by kernel_rfl) (by kernel_rfl) (by kernel_rfl)
abbrev y44 : Lay := { zero := [.lit (.int .u16 0)], kind := some .u16 }
theorem lay44 : LayOk Tryd.prog 44 y44 := layInt .u16 (by kernel_rfl) (by kernel_rfl)
abbrev y45 : Lay := y1
theorem lay45 : LayOk Tryd.prog 45 y45 := layFn (d := (Tryd.prog.underlying 45).getD .bool) (by kernel_rfl) (by kernel_rfl) (by kernel_rfl)
abbrev y46 : Lay := y1
theorem lay46 : LayOk Tryd.prog 46 y46 := layFn (d := (Tryd.prog.underlying 46).getD .bool) (by kernel_rfl) (by kernel_rfl) (by kernel_rfl)
abbrev y47 : Lay := { zero := [.sl (.ti .i64) []], el := some 1, ety := some (.ti .i64, 3, 8) }
theorem lay47 : LayOk Tryd.prog 47 y47 := laySlice 3 (.ti .i64) 8 (by kernel_rfl) (by kernel_rfl) (by kernel_rfl) (by decide) (by decide)
abbrev y48 : Lay := y1
theorem lay48 : LayOk Tryd.prog 48 y48 := layFn (d := (Tryd.prog.underlying 48).getD .bool) (by kernel_rfl) (by kernel_rfl) (by kernel_rfl)
abbrev y49 : Lay := { zero := [.sl (.tp (.ti .i64) (.tp (.ti .i64) (.tp (.ti .i64) (.tp (.tp (.ti .i64) (.ti .i64)) (.tp (.tp (.ti .i64) (.ti .i64)) (.tp (.ti .i64) (.tp (.ti .i64) (.ti .i64)))))))) []], el := some 10, ety := some (.tp (.ti .i64) (.tp (.ti .i64) (.tp (.ti .i64) (.tp (.tp (.ti .i64) (.ti .i64)) (.tp (.tp (.ti .i64) (.ti .i64)) (.tp (.ti .i64) (.tp (.ti .i64) (.ti .i64))))))), 61, 80) }
theorem lay49 : LayOk Tryd.prog 49 y49 := laySlice 61 (.tp (.ti .i64) (.tp (.ti .i64) (.tp (.ti .i64) (.tp (.tp (.ti .i64) (.ti .i64)) (.tp (.tp (.ti .i64) (.ti .i64)) (.tp (.ti .i64) (.tp (.ti .i64) (.ti .i64)))))))) 80 (by kernel_rfl) (by kernel_rfl) (by kernel_rfl) (by decide) (by decide)
abbrev y50 : Lay := y1
theorem lay50 : LayOk Tryd.prog 50 y50 := layFn (d := (Tryd.prog.underlying 50).getD .bool) (by kernel_rfl) (by kernel_rfl) (by kernel_rfl)
abbrev y51 : Lay := y26
theorem lay51 : LayOk Tryd.prog 51 y51 := layStruct (zs := [.int .i64 0, .int .i64 0]) (by kernel_rfl) rfl (by kernel_rfl) (by kernel_rfl) (by decide) (fun ks h => by injection h with h; subst h; exact ⟨by kernel_rfl, by kernel_rfl⟩)
abbrev y52 : Lay := y26
theorem lay52 : LayOk Tryd.prog 52 y52 := layStruct (zs := [.int .i64 0, .int .i64 0]) (by kernel_rfl) rfl (by kernel_rfl) (by kernel_rfl) (by decide) (fun ks h => by injection h with h; subst h; exact ⟨by kernel_rfl, by kernel_rfl⟩)
abbrev y53 : Lay := y26
theorem lay53 : LayOk Tryd.prog 53 y53 := layStruct (zs := [.int .i64 0, .int .i64 0]) (by kernel_rfl) rfl (by kernel_rfl) (by kernel_rfl) (by decide) (fun ks h => by injection h with h; subst h; exact ⟨by kernel_rfl, by kernel_rfl⟩)
abbrev y54 : Lay := y26
theorem lay54 : LayOk Tryd.prog 54 y54 := layStruct (zs := [.int .i64 0, .int .i64 0]) (by kernel_rfl) rfl (by kernel_rfl) (by kernel_rfl) (by decide) (fun ks h => by injection h with h; subst h; exact ⟨by kernel_rfl, by kernel_rfl⟩)
abbrev y55 : Lay := { size := 5, agg := true, zero := [.lit (.int .i64 0), .lit (.int .i64 0), .lit (.int .i64 0), .lit (.int .i64 0), nilS], fs := [(0, 1), (1, 1), (2, 2), (4, 1)], eqs := none, cv := [(4, (.tp (.ti .i64) (.tp (.ti .i64) (.tp (.ti .i64) (.tp (.tp (.ti .i64) (.ti .i64)) (.tp (.tp (.ti .i64) (.ti .i64)) (.tp (.ti .i64) (.tp (.ti .i64) (.ti .i64))))))), (61, false)))], cz := [(4, .tp (.ti .i64) (.tp (.ti .i64) (.tp (.ti .i64) (.tp (.tp (.ti .i64) (.ti .i64)) (.tp (.tp (.ti .i64) (.ti .i64)) (.tp (.ti .i64) (.tp (.ti .i64) (.ti .i64))))))))] }
theorem lay55 : LayOk Tryd.prog 55 y55 := layStruct (zs := [.int .i64 0, .int .i64 0, .int .i64 0, .int .i64 0, .slice none 0 0]) (by kernel_rfl) rfl (by kernel_rfl) (by kernel_rfl) (by decide) (fun ks h => by cases h)
abbrev y56 : Lay := y55
theorem lay56 : LayOk Tryd.prog 56 y56 := layStruct (zs := [.int .i64 0, .int .i64 0, .int .i64 0, .int .i64 0, .slice none 0 0]) (by kernel_rfl) rfl (by kernel_rfl) (by kernel_rfl) (by decide) (fun ks h => by cases h)
abbrev y57 : Lay := y1
theorem lay57 : LayOk Tryd.prog 57 y57 := layFn (d := (Tryd.prog.underlying 57).getD .bool) (by kernel_rfl) (by kernel_rfl) (by kernel_rfl)
abbrev y58 : Lay := { size := 3, agg := true, zero := [.lit (.int .i64 0), .lit (.int .i64 0), .lit (.int .i64 0)], fs := [(0, 1), (1, 1), (2, 1)], eqs := some [.i, .i, .i] }
theorem lay58 : LayOk Tryd.prog 58 y58 := layStruct (zs := [.int .i64 0, .int .i64 0, .int .i64 0]) (by kernel_rfl) rfl (by kernel_rfl) (by kernel_rfl) (by decide) (fun ks h => by injection h with h; subst h; exact ⟨by kernel_rfl, by kernel_rfl⟩)
abbrev y59 : Lay := y58
theorem lay59 : LayOk Tryd.prog 59 y59 := layStruct (zs := [.int .i64 0, .int .i64 0, .int .i64 0]) (by kernel_rfl) rfl (by kernel_rfl) (by kernel_rfl) (by decide) (fun ks h => by injection h with h; subst h; exact ⟨by kernel_rfl, by kernel_rfl⟩)
abbrev y60 : Lay := { size := 10, agg := true, zero := [.lit (.int .i64 0), .lit (.int .i64 0), .lit (.int .i64 0), .lit (.int .i64 0), .lit (.int .i64 0), .lit (.int .i64 0), .lit (.int .i64 0), .lit (.int .i64 0), .lit (.int .i64 0), .lit (.int .i64 0)], fs := [(0, 1), (1, 1), (2, 1), (3, 2), (5, 2), (7, 3)], eqs := some [.i, .i, .i, .i, .i, .i, .i, .i, .i, .i] }
theorem lay60 : LayOk Tryd.prog 60 y60 := layStruct (zs := [.int .i64 0, .int .i64 0, .int .i64 0, .int .i64 0, .int .i64 0, .int .i64 0, .int .i64 0, .int .i64 0, .int .i64 0, .int .i64 0]) (by kernel_rfl) rfl (by kernel_rfl) (by kernel_rfl) (by decide) (fun ks h => by injection h with h; subst h; exact ⟨by kernel_rfl, by kernel_rfl⟩)
abbrev y61 : Lay := y60
theorem lay61 : LayOk Tryd.prog 61 y61 := layStruct (zs := [.int .i64 0, .int .i64 0, .int .i64 0, .int .i64 0, .int .i64 0, .int .i64 0, .int .i64 0, .int .i64 0, .int .i64 0, .int .i64 0]) (by kernel_rfl) rfl (by kernel_rfl) (by kernel_rfl) (by decide) (fun ks h => by injection h with h; subst h; exact ⟨by kernel_rfl, by kernel_rfl⟩)
abbrev y62 : Lay := y1
theorem lay62 : LayOk Tryd.prog 62 y62 := layFn (d := (Tryd.prog.underlying 62).getD .bool) (by kernel_rfl) (by kernel_rfl) (by kernel_rfl)
abbrev y64 : Lay := y1
theorem lay64 : LayOk Tryd.prog 64 y64 := layFn (d := (Tryd.prog.underlying 64).getD .bool) (by kernel_rfl) (by kernel_rfl) (by kernel_rfl)
abbrev y65 : Lay := y1
theorem lay65 : LayOk Tryd.prog 65 y65 := layFn (d := (Tryd.prog.underlying 65).getD .bool) (by kernel_rfl) (by kernel_rfl) (by kernel_rfl)
abbrev y66 : Lay := y1
theorem lay66 : LayOk Tryd.prog 66 y66 := layFn (d := (Tryd.prog.underlying 66).getD .bool) (by kernel_rfl) (by kernel_rfl) (by kernel_rfl)
abbrev y67 : Lay := y1
theorem lay67 : LayOk Tryd.prog 67 y67 := layFn (d := (Tryd.prog.underlying 67).getD .bool) (by kernel_rfl) (by kernel_rfl) (by kernel_rfl)
abbrev y68 : Lay := y1
theorem lay68 : LayOk Tryd.prog 68 y68 := layFn (d := (Tryd.prog.underlying 68).getD .bool) (by kernel_rfl) (by kernel_rfl) (by kernel_rfl)
abbrev y69 : Lay := { zero := [.sl (.tl (.ti .i64)) []], el := some 1, ety := some (.tl (.ti .i64), 47, 24) }
theorem lay69 : LayOk Tryd.prog 69 y69 := laySlice 47 (.tl (.ti .i64)) 24 (by kernel_rfl) (by kernel_rfl) (by kernel_rfl) (by decide) (by decide)
abbrev y70 : Lay := y1
theorem lay70 : LayOk Tryd.prog 70 y70 := layFn (d := (Tryd.prog.underlying 70).getD .bool) (by kernel_rfl) (by kernel_rfl) (by kernel_rfl)
abbrev y71 : Lay := y1
theorem lay71 : LayOk Tryd.prog 71 y71 := layFn (d := (Tryd.prog.underlying 71).getD .bool) (by kernel_rfl) (by kernel_rfl) (by kernel_rfl)
abbrev y72 : Lay := { zero := [.sl (.tb) []], el := some 1, ety := some (.tb, 4, 1) }
theorem lay72 : LayOk Tryd.prog 72 y72 := laySlice 4 (.tb) 1 (by kernel_rfl) (by kernel_rfl) (by kernel_rfl) (by decide) (by decide)
abbrev y73 : Lay := y1
theorem lay73 : LayOk Tryd.prog 73 y73 := layFn (d := (Tryd.prog.underlying 73).getD .bool) (by kernel_rfl) (by kernel_rfl) (by kernel_rfl)
abbrev y75 : Lay := y1
theorem lay75 : LayOk Tryd.prog 75 y75 := layFn (d := (Tryd.prog.underlying 75).getD .bool) (by kernel_rfl) (by kernel_rfl) (by kernel_rfl)
abbrev y76 : Lay := y1
theorem lay76 : LayOk Tryd.prog 76 y76 := layFn (d := (Tryd.prog.underlying 76).getD .bool) (by kernel_rfl) (by kernel_rfl) (by kernel_rfl)
abbrev y77 : Lay := y1
theorem lay77 : LayOk Tryd.prog 77 y77 := layFn (d := (Tryd.prog.underlying 77).getD .bool) (by kernel_rfl) (by kernel_rfl) (by kernel_rfl)
abbrev y78 : Lay := y1
theorem lay78 : LayOk Tryd.prog 78 y78 := layFn (d := (Tryd.prog.underlying 78).getD .bool) (by kernel_rfl) (by kernel_rfl) (by kernel_rfl)
abbrev y79 : Lay := y1
theorem lay79 : LayOk Tryd.prog 79 y79 := layFn (d := (Tryd.prog.underlying 79).getD .bool) (by kernel_rfl) (by kernel_rfl) (by kernel_rfl)
abbrev y80 : Lay := y1
theorem lay80 : LayOk Tryd.prog 80 y80 := layFn (d := (Tryd.prog.underlying 80).getD .bool) (by kernel_rfl) (by kernel_rfl) (by kernel_rfl)
abbrev y81 : Lay := y1
theorem lay81 : LayOk Tryd.prog 81 y81 := layFn (d := (Tryd.prog.underlying 81).getD .bool) (by kernel_rfl) (by kernel_rfl) (by kernel_rfl)
abbrev y83 : Lay := y1
theorem lay83 : LayOk Tryd.prog 83 y83 := layFn (d := (Tryd.prog.underlying 83).getD .bool) (by kernel_rfl) (by kernel_rfl) (by kernel_rfl)
abbrev y84 : Lay := y1
theorem lay84 : LayOk Tryd.prog 84 y84 := layFn (d := (Tryd.prog.underlying 84).getD .bool) (by kernel_rfl) (by kernel_rfl) (by kernel_rfl)
abbrev y85 : Lay := y1
theorem lay85 : LayOk Tryd.prog 85 y85 := layFn (d := (Tryd.prog.underlying 85).getD .bool) (by kernel_rfl) (by kernel_rfl) (by kernel_rfl)
abbrev y86 : Lay := y1
theorem lay86 : LayOk Tryd.prog 86 y86 := layFn (d := (Tryd.prog.underlying 86).getD .bool) (by kernel_rfl) (by kernel_rfl) (by kernel_rfl)
abbrev y87 : Lay := y1
theorem lay87 : LayOk Tryd.prog 87 y87 := layFn (d := (Tryd.prog.underlying 87).getD .bool) (by kernel_rfl) (by kernel_rfl) (by kernel_rfl)
abbrev y88 : Lay := y1
theorem lay88 : LayOk Tryd.prog 88 y88 := layFn (d := (Tryd.prog.underlying 88).getD .bool) (by kernel_rfl) (by kernel_rfl) (by kernel_rfl)
abbrev y89 : Lay := y1
theorem lay89 : LayOk Tryd.prog 89 y89 := layFn (d := (Tryd.prog.underlying 89).getD .bool) (by kernel_rfl) (by kernel_rfl) (by kernel_rfl)
abbrev y90 : Lay := y1
theorem lay90 : LayOk Tryd.prog 90 y90 := layFn (d := (Tryd.prog.underlying 90).getD .bool) (by kernel_rfl) (by kernel_rfl) (by kernel_rfl)
abbrev y91 : Lay := y1
theorem lay91 : LayOk Tryd.prog 91 y91 := layFn (d := (Tryd.prog.underlying 91).getD .bool) (by kernel_rfl) (by kernel_rfl) (by kernel_rfl)
abbrev y92 : Lay := y1
theorem lay92 : LayOk Tryd.prog 92 y92 := layFn (d := (Tryd.prog.underlying 92).getD .bool) (by kernel_rfl) (by kernel_rfl) (by kernel_rfl)
abbrev y93 : Lay := y1
theorem lay93 : LayOk Tryd.prog 93 y93 := layFn (d := (Tryd.prog.underlying 93).getD .bool) (by kernel_rfl) (by kernel_rfl) (by kernel_rfl)
abbrev y94 : Lay := y1
theorem lay94 : LayOk Tryd.prog 94 y94 := layFn (d := (Tryd.prog.underlying 94).getD .bool) (by kernel_rfl) (by kernel_rfl) (by kernel_rfl)
abbrev y95 : Lay := { zero := [.sl (.ti .u8) []], el := some 1, ety := some (.ti .u8, 5, 1), sk := 2 }
theorem lay95 : LayOk Tryd.prog 95 y95 := laySk 2 (laySlice 5 (.ti .u8) 1 (by kernel_rfl) (by kernel_rfl) (by kernel_rfl) (by decide) (by decide)) (sk2 5 (by kernel_rfl) (by kernel_rfl))
abbrev y96 : Lay := y1
theorem lay96 : LayOk Tryd.prog 96 y96 := layFn (d := (Tryd.prog.underlying 96).getD .bool) (by kernel_rfl) (by kernel_rfl) (by kernel_rfl)
abbrev y97 : Lay := y1
theorem lay97 : LayOk Tryd.prog 97 y97 := layFn (d := (Tryd.prog.underlying 97).getD .bool) (by kernel_rfl) (by kernel_rfl) (by kernel_rfl)
abbrev y98 : Lay := y1
theorem lay98 : LayOk Tryd.prog 98 y98 := layFn (d := (Tryd.prog.underlying 98).getD .bool) (by kernel_rfl) (by kernel_rfl) (by kernel_rfl)
abbrev y99 : Lay := y1
theorem lay99 : LayOk Tryd.prog 99 y99 := layFn (d := (Tryd.prog.underlying 99).getD .bool) (by kernel_rfl) (by kernel_rfl) (by kernel_rfl)
abbrev y100 : Lay := y1
theorem lay100 : LayOk Tryd.prog 100 y100 := layFn (d := (Tryd.prog.underlying 100).getD .bool) (by kernel_rfl) (by kernel_rfl) (by kernel_rfl)
abbrev y101 : Lay := { zero := [.lit (.map none)], mpt := some (.tp (.ti .i64) (.ti .i64), .tb) }
theorem lay101 : LayOk Tryd.prog 101 y101 := layMap 54 4 (.tp (.ti .i64) (.ti .i64)) (.tb) (.bool false) (by kernel_rfl) (by kernel_rfl) (by kernel_rfl) (by kernel_rfl) (by kernel_rfl) (by kernel_rfl) (by kernel_rfl) (fun h => by cases h) (fun _ => rfl)
abbrev y102 : Lay := y1
theorem lay102 : LayOk Tryd.prog 102 y102 := layFn (d := (Tryd.prog.underlying 102).getD .bool) (by kernel_rfl) (by kernel_rfl) (by kernel_rfl)
abbrev y103 : Lay := y1
theorem lay103 : LayOk Tryd.prog 103 y103 := layFn (d := (Tryd.prog.underlying 103).getD .bool) (by kernel_rfl) (by kernel_rfl) (by kernel_rfl)
abbrev y105 : Lay := y1
theorem lay105 : LayOk Tryd.prog 105 y105 := layFn (d := (Tryd.prog.underlying 105).getD .bool) (by kernel_rfl) (by kernel_rfl) (by kernel_rfl)
abbrev y106 : Lay := y1
theorem lay106 : LayOk Tryd.prog 106 y106 := layFn (d := (Tryd.prog.underlying 106).getD .bool) (by kernel_rfl) (by kernel_rfl) (by kernel_rfl)
abbrev y107 : Lay := y1
theorem lay107 : LayOk Tryd.prog 107 y107 := layFn (d := (Tryd.prog.underlying 107).getD .bool) (by kernel_rfl) (by kernel_rfl) (by kernel_rfl)
abbrev y108 : Lay := y26
theorem lay108 : LayOk Tryd.prog 108 y108 := layStruct (zs := [.int .i64 0, .int .i64 0]) (by kernel_rfl) rfl (by kernel_rfl) (by kernel_rfl) (by decide) (fun ks h => by injection h with h; subst h; exact ⟨by kernel_rfl, by kernel_rfl⟩)
abbrev y109 : Lay := y26
theorem lay109 : LayOk Tryd.prog 109 y109 := layStruct (zs := [.int .i64 0, .int .i64 0]) (by kernel_rfl) rfl (by kernel_rfl) (by kernel_rfl) (by decide) (fun ks h => by injection h with h; subst h; exact ⟨by kernel_rfl, by kernel_rfl⟩)
abbrev y110 : Lay := y1
theorem lay110 : LayOk Tryd.prog 110 y110 := layFn (d := (Tryd.prog.underlying 110).getD .bool) (by kernel_rfl) (by kernel_rfl) (by kernel_rfl)
abbrev y111 : Lay := y1
theorem lay111 : LayOk Tryd.prog 111 y111 := layFn (d := (Tryd.prog.underlying 111).getD .bool) (by kernel_rfl) (by kernel_rfl) (by kernel_rfl)
abbrev y112 : Lay := y1
theorem lay112 : LayOk Tryd.prog 112 y112 := layFn (d := (Tryd.prog.underlying 112).getD .bool) (by kernel_rfl) (by kernel_rfl) (by kernel_rfl)
abbrev y113 : Lay := { size := 24, agg := true, zero := [.lit (.int .u8 0), .lit (.int .u8 0), .lit (.int .u8 0), .lit (.int .u8 0), .lit (.int .u8 0), .lit (.int .u8 0), .lit (.int .u8 0), .lit (.int .u8 0), .lit (.int .u8 0), .lit (.int .u8 0), .lit (.int .u8 0), .lit (.int .u8 0), .lit (.int .u8 0), .lit (.int .u8 0), .lit (.int .u8 0), .lit (.int .u8 0), .lit (.int .u8 0), .lit (.int .u8 0), .lit (.int .u8 0), .lit (.int .u8 0), .lit (.int .u8 0), .lit (.int .u8 0), .lit (.int .u8 0), .lit (.int .u8 0)], ars := some (24, 5, 1) }
theorem lay113 : LayOk Tryd.prog 113 y113 := layArr (zs := [.int .u8 0, .int .u8 0, .int .u8 0, .int .u8 0, .int .u8 0, .int .u8 0, .int .u8 0, .int .u8 0, .int .u8 0, .int .u8 0, .int .u8 0, .int .u8 0, .int .u8 0, .int .u8 0, .int .u8 0, .int .u8 0, .int .u8 0, .int .u8 0, .int .u8 0, .int .u8 0, .int .u8 0, .int .u8 0, .int .u8 0, .int .u8 0]) (by kernel_rfl) (by kernel_rfl) (by kernel_rfl) (by kernel_rfl)
abbrev y114 : Lay := y1
theorem lay114 : LayOk Tryd.prog 114 y114 := layFn (d := (Tryd.prog.underlying 114).getD .bool) (by kernel_rfl) (by kernel_rfl) (by kernel_rfl)
abbrev y115 : Lay := y1
theorem lay115 : LayOk Tryd.prog 115 y115 := layFn (d := (Tryd.prog.underlying 115).getD .bool) (by kernel_rfl) (by kernel_rfl) (by kernel_rfl)
abbrev y117 : Lay := y1
theorem lay117 : LayOk Tryd.prog 117 y117 := layFn (d := (Tryd.prog.underlying 117).getD .bool) (by kernel_rfl) (by kernel_rfl) (by kernel_rfl)
abbrev y118 : Lay := y1
theorem lay118 : LayOk Tryd.prog 118 y118 := layFn (d := (Tryd.prog.underlying 118).getD .bool) (by kernel_rfl) (by kernel_rfl) (by kernel_rfl)
abbrev y119 : Lay := { size := 20, agg := true, zero := [.lit (.int .u64 0), .lit (.int .u64 0), .lit (.int .u64 0), .lit (.int .u64 0), .lit (.int .u64 0), .lit (.int .u64 0), .lit (.int .u64 0), .lit (.int .u64 0), .lit (.int .u64 0), .lit (.int .u64 0), .lit (.int .u64 0), .lit (.int .u64 0), .lit (.int .u64 0), .lit (.int .u64 0), .lit (.int .u64 0), .lit (.int .u64 0), .lit (.int .u64 0), .lit (.int .u64 0), .lit (.int .u64 0), .lit (.int .u64 0)], ars := some (20, 29, 1) }
theorem lay119 : LayOk Tryd.prog 119 y119 := layArr (zs := [.int .u64 0, .int .u64 0, .int .u64 0, .int .u64 0, .int .u64 0, .int .u64 0, .int .u64 0, .int .u64 0, .int .u64 0, .int .u64 0, .int .u64 0, .int .u64 0, .int .u64 0, .int .u64 0, .int .u64 0, .int .u64 0, .int .u64 0, .int .u64 0, .int .u64 0, .int .u64 0]) (by kernel_rfl) (by kernel_rfl) (by kernel_rfl) (by kernel_rfl)
abbrev y120 : Lay := { zero := [.lit (.int .u32 0)], kind := some .u32 }
theorem lay120 : LayOk Tryd.prog 120 y120 := layInt .u32 (by kernel_rfl) (by kernel_rfl)
abbrev y122 : Lay := y12
theorem lay122 : LayOk Tryd.prog 122 y122 := layInt .u64 (by kernel_rfl) (by kernel_rfl)
abbrev y123 : Lay := y1
theorem lay123 : LayOk Tryd.prog 123 y123 := layFn (d := (Tryd.prog.underlying 123).getD .bool) (by kernel_rfl) (by kernel_rfl) (by kernel_rfl)
abbrev y124 : Lay := y1
theorem lay124 : LayOk Tryd.prog 124 y124 := layFn (d := (Tryd.prog.underlying 124).getD .bool) (by kernel_rfl) (by kernel_rfl) (by kernel_rfl)
abbrev y125 : Lay := { size := 32, agg := true, zero := [.lit (.int .u8 0), .lit (.int .u8 0), .lit (.int .u8 0), .lit (.int .u8 0), .lit (.int .u8 0), .lit (.int .u8 0), .lit (.int .u8 0), .lit (.int .u8 0), .lit (.int .u8 0), .lit (.int .u8 0), .lit (.int .u8 0), .lit (.int .u8 0), .lit (.int .u8 0), .lit (.int .u8 0), .lit (.int .u8 0), .lit (.int .u8 0), .lit (.int .u8 0), .lit (.int .u8 0), .lit (.int .u8 0), .lit (.int .u8 0), .lit (.int .u8 0), .lit (.int .u8 0), .lit (.int .u8 0), .lit (.int .u8 0), .lit (.int .u8 0), .lit (.int .u8 0), .lit (.int .u8 0), .lit (.int .u8 0), .lit (.int .u8 0), .lit (.int .u8 0), .lit (.int .u8 0), .lit (.int .u8 0)], ars := some (32, 5, 1) }
theorem lay125 : LayOk Tryd.prog 125 y125 := layArr (zs := [.int .u8 0, .int .u8 0, .int .u8 0, .int .u8 0, .int .u8 0, .int .u8 0, .int .u8 0, .int .u8 0, .int .u8 0, .int .u8 0, .int .u8 0, .int .u8 0, .int .u8 0, .int .u8 0, .int .u8 0, .int .u8 0, .int .u8 0, .int .u8 0, .int .u8 0, .int .u8 0, .int .u8 0, .int .u8 0, .int .u8 0, .int .u8 0, .int .u8 0, .int .u8 0, .int .u8 0, .int .u8 0, .int .u8 0, .int .u8 0, .int .u8 0, .int .u8 0]) (by kernel_rfl) (by kernel_rfl) (by kernel_rfl) (by kernel_rfl)
abbrev y126 : Lay := { size := 64, agg := true, zero := [.lit (.int .u8 0), .lit (.int .u8 0), .lit (.int .u8 0), .lit (.int .u8 0), .lit (.int .u8 0), .lit (.int .u8 0), .lit (.int .u8 0), .lit (.int .u8 0), .lit (.int .u8 0), .lit (.int .u8 0), .lit (.int .u8 0), .lit (.int .u8 0), .lit (.int .u8 0), .lit (.int .u8 0), .lit (.int .u8 0), .lit (.int .u8 0), .lit (.int .u8 0), .lit (.int .u8 0), .lit (.int .u8 0), .lit (.int .u8 0), .lit (.int .u8 0), .lit (.int .u8 0), .lit (.int .u8 0), .lit (.int .u8 0), .lit (.int .u8 0), .lit (.int .u8 0), .lit (.int .u8 0), .lit (.int .u8 0), .lit (.int .u8 0), .lit (.int .u8 0), .lit (.int .u8 0), .lit (.int .u8 0), .lit (.int .u8 0), .lit (.int .u8 0), .lit (.int .u8 0), .lit (.int .u8 0), .lit (.int .u8 0), .lit (.int .u8 0), .lit (.int .u8 0), .lit (.int .u8 0), .lit (.int .u8 0), .lit (.int .u8 0), .lit (.int .u8 0), .lit (.int .u8 0), .lit (.int .u8 0), .lit (.int .u8 0), .lit (.int .u8 0), .lit (.int .u8 0), .lit (.int .u8 0), .lit (.int .u8 0), .lit (.int .u8 0), .lit (.int .u8 0), .lit (.int .u8 0), .lit (.int .u8 0), .lit (.int .u8 0), .lit (.int .u8 0), .lit (.int .u8 0), .lit (.int .u8 0), .lit (.int .u8 0), .lit (.int .u8 0), .lit (.int .u8 0), .lit (.int .u8 0), .lit (.int .u8 0), .lit (.int .u8 0)], ars := some (64, 5, 1) }
theorem lay126 : LayOk Tryd.prog 126 y126 := layArr (zs := [.int .u8 0, .int .u8 0, .int .u8 0, .int .u8 0, .int .u8 0, .int .u8 0, .int .u8 0, .int .u8 0, .int .u8 0, .int .u8 0, .int .u8 0, .int .u8 0, .int .u8 0, .int .u8 0, .int .u8 0, .int .u8 0, .int .u8 0, .int .u8 0, .int .u8 0, .int .u8 0, .int .u8 0, .int .u8 0, .int .u8 0, .int .u8 0, .int .u8 0, .int .u8 0, .int .u8 0, .int .u8 0, .int .u8 0, .int .u8 0, .int .u8 0, .int .u8 0, .int .u8 0, .int .u8 0, .int .u8 0, .int .u8 0, .int .u8 0, .int .u8 0, .int .u8 0, .int .u8 0, .int .u8 0, .int .u8 0, .int .u8 0, .int .u8 0, .int .u8 0, .int .u8 0, .int .u8 0, .int .u8 0, .int .u8 0, .int .u8 0, .int .u8 0, .int .u8 0, .int .u8 0, .int .u8 0, .int .u8 0, .int .u8 0, .int .u8 0, .int .u8 0, .int .u8 0, .int .u8 0, .int .u8 0, .int .u8 0, .int .u8 0, .int .u8 0]) (by kernel_rfl) (by kernel_rfl) (by kernel_rfl) (by kernel_rfl)
abbrev y127 : Lay := y1
theorem lay127 : LayOk Tryd.prog 127 y127 := layFn (d := (Tryd.prog.underlying 127).getD .bool) (by kernel_rfl) (by kernel_rfl) (by kernel_rfl)
abbrev y133 : Lay := y1
theorem lay133 : LayOk Tryd.prog 133 y133 := layFn (d := (Tryd.prog.underlying 133).getD .bool) (by kernel_rfl) (by kernel_rfl) (by kernel_rfl)
abbrev y136 : Lay := y1
theorem lay136 : LayOk Tryd.prog 136 y136 := layFn (d := (Tryd.prog.underlying 136).getD .bool) (by kernel_rfl) (by kernel_rfl) (by kernel_rfl)
abbrev y137 : Lay := { zero := [.lit (.pointer none)] }
theorem lay137 : LayOk Tryd.prog 137 y137 := layOne (d := (Tryd.prog.underlying 137).getD .bool) (z := .pointer none) (k := none) (by kernel_rfl) (by kernel_rfl) (by kernel_rfl) (fun _ _ => .lit rfl) (fun q h => by cases h)
abbrev y142 : Lay := y1
theorem lay142 : LayOk Tryd.prog 142 y142 := layFn (d := (Tryd.prog.underlying 142).getD .bool) (by kernel_rfl) (by kernel_rfl) (by kernel_rfl)
def L0 : Nat → Option Lay := Sy.look [(1, y1), (2, y2), (3, y3), (4, y4), (5, y5), (9, y9), (12, y12), (21, y21), (22, y22), (23, y23), (24, y24), (25, y25), (26, y26), (27, y27), (28, y28), (29, y29), (30, y30), (31, y31), (32, y32), (33, y33), (34, y34), (36, y36), (37, y37), (39, y39), (40, y40), (42, y42), (43, y43), (44, y44), (45, y45), (46, y46), (47, y47), (48, y48), (49, y49), (50, y50), (51, y51), (52, y52), (53, y53), (54, y54), (55, y55), (56, y56), (57, y57), (58, y58), (59, y59), (60, y60), (61, y61), (62, y62), (64, y64), (65, y65), (66, y66), (67, y67), (68, y68), (69, y69), (70, y70), (71, y71), (72, y72), (73, y73), (75, y75), (76, y76), (77, y77), (78, y78), (79, y79), (80, y80), (81, y81), (83, y83), (84, y84), (85, y85), (86, y86), (87, y87), (88, y88), (89, y89), (90, y90), (91, y91), (92, y92), (93, y93), (94, y94), (95, y95), (96, y96), (97, y97), (98, y98), (99, y99), (100, y100), (101, y101), (102, y102), (103, y103), (105, y105), (106, y106), (107, y107), (108, y108), (109, y109), (110, y110), (111, y111), (112, y112), (113, y113), (114, y114), (115, y115), (117, y117), (118, y118), (119, y119), (120, y120), (122, y122), (123, y123), (124, y124), (125, y125), (126, y126), (127, y127), (133, y133), (136, y136), (137, y137), (142, y142)]
theorem L0_ok : LOk Tryd.prog L0 := by
  refine look_ok fun q hq => ?_
  simp only [List.mem_cons, List.not_mem_nil, or_false] at hq
  rcases hq with rfl | rfl | rfl | rfl | rfl | rfl | rfl | rfl | rfl | rfl | rfl | rfl | rfl | rfl | rfl | rfl | rfl | rfl | rfl | rfl | rfl | rfl | rfl | rfl | rfl | rfl | rfl | rfl | rfl | rfl | rfl | rfl | rfl | rfl | rfl | rfl | rfl | rfl | rfl | rfl | rfl | rfl | rfl | rfl | rfl | rfl | rfl | rfl | rfl | rfl | rfl | rfl | rfl | rfl | rfl | rfl | rfl | rfl | rfl | rfl | rfl | rfl | rfl | rfl | rfl | rfl | rfl | rfl | rfl | rfl | rfl | rfl | rfl | rfl | rfl | rfl | rfl | rfl | rfl | rfl | rfl | rfl | rfl | rfl | rfl | rfl | rfl | rfl | rfl | rfl | rfl | rfl | rfl | rfl | rfl | rfl | rfl | rfl | rfl | rfl | rfl | rfl | rfl | rfl | rfl | rfl | rfl | rfl | rfl
  · exact lay1
  · exact lay2
  · exact lay3
  · exact lay4
  · exact lay5
  · exact lay9
  · exact lay12
  · exact lay21
  · exact lay22
  · exact lay23
  · exact lay24
  · exact lay25
  · exact lay26
  · exact lay27
  · exact lay28
  · exact lay29
  · exact lay30
  · exact lay31
  · exact lay32
  · exact lay33
  · exact lay34
  · exact lay36
  · exact lay37
  · exact lay39
  · exact lay40
  · exact lay42
  · exact lay43
  · exact lay44
  · exact lay45
  · exact lay46
  · exact lay47
  · exact lay48
  · exact lay49
  · exact lay50
  · exact lay51
  · exact lay52
  · exact lay53
  · exact lay54
  · exact lay55
  · exact lay56
  · exact lay57
  · exact lay58
  · exact lay59
  · exact lay60
  · exact lay61
  · exact lay62
  · exact lay64
  · exact lay65
  · exact lay66
  · exact lay67
  · exact lay68
  · exact lay69
  · exact lay70
  · exact lay71
  · exact lay72
  · exact lay73
  · exact lay75
  · exact lay76
  · exact lay77
  · exact lay78
  · exact lay79
  · exact lay80
  · exact lay81
  · exact lay83
  · exact lay84
  · exact lay85
  · exact lay86
  · exact lay87
  · exact lay88
  · exact lay89
  · exact lay90
  · exact lay91
  · exact lay92
  · exact lay93
  · exact lay94
  · exact lay95
  · exact lay96
  · exact lay97
  · exact lay98
  · exact lay99
  · exact lay100
  · exact lay101
  · exact lay102
  · exact lay103
  · exact lay105
  · exact lay106
  · exact lay107
  · exact lay108
  · exact lay109
  · exact lay110
  · exact lay111
  · exact lay112
  · exact lay113
  · exact lay114
  · exact lay115
  · exact lay117
  · exact lay118
  · exact lay119
  · exact lay120
  · exact lay122
  · exact lay123
  · exact lay124
  · exact lay125
  · exact lay126
  · exact lay127
  · exact lay133
  · exact lay136
  · exact lay137
  · exact lay142
def LV (os vs : List Nat) (wr : Bool) : Nat → Option Lay := LVar L0 os vs wr
theorem LV_ok (os vs : List Nat) (wr : Bool) : LOk Tryd.prog (LV os vs wr) := LVar_ok L0_ok os vs wr
def L : Nat → Option Lay := LV [] [] false
theorem L_ok : LOk Tryd.prog L := LV_ok [] [] false
theorem mixed : Tryd.prog.follows .mixedOrders = true := by kernel_rfl
end Go.Proofs.YtiplcokpckkopaaDoor
