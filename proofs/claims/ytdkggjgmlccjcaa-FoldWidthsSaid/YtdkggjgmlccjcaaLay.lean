/- The layouts of this seat's types, each proved by closed facts off the loaded program. Written by a program (wip/tools/lay.py). -/
import Derived.Test.YtdkggjgmlccjcaaSyX
import Derived.Test.YtdkggjgmlccjcaaProg
namespace Go.Proofs.Ytdkggjgmlccjcaa
open Go.Sy
set_option linter.unusedVariables false
abbrev y1 : Lay := { zero := [.lit .nilFunc] }
theorem lay1 : LayOk Try.prog 1 y1 := layFn (d := (Try.prog.underlying 1).getD .bool) (by kernel_rfl) (by kernel_rfl) (by kernel_rfl)
abbrev y2 : Lay := { zero := [.lit (.int .i64 0)], kind := some .i64 }
theorem lay2 : LayOk Try.prog 2 y2 := layInt .i64 (by kernel_rfl) (by kernel_rfl)
abbrev y3 : Lay := y2
theorem lay3 : LayOk Try.prog 3 y3 := layInt .i64 (by kernel_rfl) (by kernel_rfl)
abbrev y4 : Lay := { zero := [.lit (.bool false)], eqs := some [.b] }
theorem lay4 : LayOk Try.prog 4 y4 := layBool (by kernel_rfl) (by kernel_rfl) (by kernel_rfl)
abbrev y5 : Lay := { zero := [.lit (.int .u8 0)], kind := some .u8 }
theorem lay5 : LayOk Try.prog 5 y5 := layInt .u8 (by kernel_rfl) (by kernel_rfl)
abbrev y9 : Lay := { zero := [.lit (.string ByteArray.empty)], sk := 1 }
theorem lay9 : LayOk Try.prog 9 y9 := laySk 1 (layStr (by kernel_rfl) (by kernel_rfl)) (sk1 (by kernel_rfl))
abbrev y12 : Lay := { zero := [.lit (.int .u64 0)], kind := some .u64 }
theorem lay12 : LayOk Try.prog 12 y12 := layInt .u64 (by kernel_rfl) (by kernel_rfl)
abbrev y21 : Lay := { zero := [.lit (.int .i32 0)], kind := some .i32 }
theorem lay21 : LayOk Try.prog 21 y21 := layInt .i32 (by kernel_rfl) (by kernel_rfl)
abbrev y22 : Lay := { zero := [.sl (.tp (.ti .i64) (.tp (.ti .i64) (.tp (.tp (.ti .i64) (.ti .i64)) (.tl (.tp (.ti .i64) (.tp (.ti .i64) (.tp (.ti .i64) (.tp (.tp (.ti .i64) (.ti .i64)) (.tp (.tp (.ti .i64) (.ti .i64)) (.tp (.ti .i64) (.tp (.ti .i64) (.ti .i64)))))))))))) []], el := some 5, ety := some (.tp (.ti .i64) (.tp (.ti .i64) (.tp (.tp (.ti .i64) (.ti .i64)) (.tl (.tp (.ti .i64) (.tp (.ti .i64) (.tp (.ti .i64) (.tp (.tp (.ti .i64) (.ti .i64)) (.tp (.tp (.ti .i64) (.ti .i64)) (.tp (.ti .i64) (.tp (.ti .i64) (.ti .i64))))))))))), 47, 56) }
theorem lay22 : LayOk Try.prog 22 y22 := laySlice 47 (.tp (.ti .i64) (.tp (.ti .i64) (.tp (.tp (.ti .i64) (.ti .i64)) (.tl (.tp (.ti .i64) (.tp (.ti .i64) (.tp (.ti .i64) (.tp (.tp (.ti .i64) (.ti .i64)) (.tp (.tp (.ti .i64) (.ti .i64)) (.tp (.ti .i64) (.tp (.ti .i64) (.ti .i64)))))))))))) 56 (by kernel_rfl) (by kernel_rfl) (by kernel_rfl) (by decide) (by decide)
abbrev y23 : Lay := { size := 2, agg := true, zero := [.lit (.int .i64 0), nilS], fs := [(0, 1), (1, 1)], eqs := none, cv := [(1, (.tp (.ti .i64) (.tp (.ti .i64) (.tp (.tp (.ti .i64) (.ti .i64)) (.tl (.tp (.ti .i64) (.tp (.ti .i64) (.tp (.ti .i64) (.tp (.tp (.ti .i64) (.ti .i64)) (.tp (.tp (.ti .i64) (.ti .i64)) (.tp (.ti .i64) (.tp (.ti .i64) (.ti .i64))))))))))), (47, false)))], cz := [(1, .tp (.ti .i64) (.tp (.ti .i64) (.tp (.tp (.ti .i64) (.ti .i64)) (.tl (.tp (.ti .i64) (.tp (.ti .i64) (.tp (.ti .i64) (.tp (.tp (.ti .i64) (.ti .i64)) (.tp (.tp (.ti .i64) (.ti .i64)) (.tp (.ti .i64) (.tp (.ti .i64) (.ti .i64))))))))))))] }
theorem lay23 : LayOk Try.prog 23 y23 := layStruct (zs := [.int .i64 0, .slice none 0 0]) (by kernel_rfl) rfl (by kernel_rfl) (by kernel_rfl) (by decide) (fun ks h => by cases h)
abbrev y24 : Lay := y23
theorem lay24 : LayOk Try.prog 24 y24 := layStruct (zs := [.int .i64 0, .slice none 0 0]) (by kernel_rfl) rfl (by kernel_rfl) (by kernel_rfl) (by decide) (fun ks h => by cases h)
abbrev y25 : Lay := { zero := [.sl (.ti .i64) []], el := some 1, ety := some (.ti .i64, 3, 8) }
theorem lay25 : LayOk Try.prog 25 y25 := laySlice 3 (.ti .i64) 8 (by kernel_rfl) (by kernel_rfl) (by kernel_rfl) (by decide) (by decide)
abbrev y26 : Lay := { zero := [.sl (.tp (.ti .i64) (.ti .i64)) []], el := some 2, ety := some (.tp (.ti .i64) (.ti .i64), 42, 16) }
theorem lay26 : LayOk Try.prog 26 y26 := laySlice 42 (.tp (.ti .i64) (.ti .i64)) 16 (by kernel_rfl) (by kernel_rfl) (by kernel_rfl) (by decide) (by decide)
abbrev y27 : Lay := y1
theorem lay27 : LayOk Try.prog 27 y27 := layFn (d := (Try.prog.underlying 27).getD .bool) (by kernel_rfl) (by kernel_rfl) (by kernel_rfl)
abbrev y28 : Lay := y1
theorem lay28 : LayOk Try.prog 28 y28 := layFn (d := (Try.prog.underlying 28).getD .bool) (by kernel_rfl) (by kernel_rfl) (by kernel_rfl)
abbrev y29 : Lay := y2
theorem lay29 : LayOk Try.prog 29 y29 := layInt .i64 (by kernel_rfl) (by kernel_rfl)
abbrev y31 : Lay := y1
theorem lay31 : LayOk Try.prog 31 y31 := layFn (d := (Try.prog.underlying 31).getD .bool) (by kernel_rfl) (by kernel_rfl) (by kernel_rfl)
abbrev y32 : Lay := y1
theorem lay32 : LayOk Try.prog 32 y32 := layFn (d := (Try.prog.underlying 32).getD .bool) (by kernel_rfl) (by kernel_rfl) (by kernel_rfl)
abbrev y34 : Lay := y1
theorem lay34 : LayOk Try.prog 34 y34 := layFn (d := (Try.prog.underlying 34).getD .bool) (by kernel_rfl) (by kernel_rfl) (by kernel_rfl)
abbrev y35 : Lay := y1
theorem lay35 : LayOk Try.prog 35 y35 := layFn (d := (Try.prog.underlying 35).getD .bool) (by kernel_rfl) (by kernel_rfl) (by kernel_rfl)
abbrev y36 : Lay := y1
theorem lay36 : LayOk Try.prog 36 y36 := layFn (d := (Try.prog.underlying 36).getD .bool) (by kernel_rfl) (by kernel_rfl) (by kernel_rfl)
abbrev y37 : Lay := y1
theorem lay37 : LayOk Try.prog 37 y37 := layFn (d := (Try.prog.underlying 37).getD .bool) (by kernel_rfl) (by kernel_rfl) (by kernel_rfl)
abbrev y38 : Lay := { zero := [.sl (.ti .u8) []], el := some 1, ety := some (.ti .u8, 5, 1), sk := 2 }
theorem lay38 : LayOk Try.prog 38 y38 := laySk 2 (laySlice 5 (.ti .u8) 1 (by kernel_rfl) (by kernel_rfl) (by kernel_rfl) (by decide) (by decide)) (sk2 5 (by kernel_rfl) (by kernel_rfl))
abbrev y40 : Lay := y1
theorem lay40 : LayOk Try.prog 40 y40 := layFn (d := (Try.prog.underlying 40).getD .bool) (by kernel_rfl) (by kernel_rfl) (by kernel_rfl)
abbrev y41 : Lay := { size := 2, agg := true, zero := [.lit (.int .i64 0), .lit (.int .i64 0)], fs := [(0, 1), (1, 1)], eqs := some [.i, .i] }
theorem lay41 : LayOk Try.prog 41 y41 := layStruct (zs := [.int .i64 0, .int .i64 0]) (by kernel_rfl) rfl (by kernel_rfl) (by kernel_rfl) (by decide) (fun ks h => by injection h with h; subst h; exact ⟨by kernel_rfl, by kernel_rfl⟩)
abbrev y42 : Lay := y41
theorem lay42 : LayOk Try.prog 42 y42 := layStruct (zs := [.int .i64 0, .int .i64 0]) (by kernel_rfl) rfl (by kernel_rfl) (by kernel_rfl) (by decide) (fun ks h => by injection h with h; subst h; exact ⟨by kernel_rfl, by kernel_rfl⟩)
abbrev y43 : Lay := y41
theorem lay43 : LayOk Try.prog 43 y43 := layStruct (zs := [.int .i64 0, .int .i64 0]) (by kernel_rfl) rfl (by kernel_rfl) (by kernel_rfl) (by decide) (fun ks h => by injection h with h; subst h; exact ⟨by kernel_rfl, by kernel_rfl⟩)
abbrev y44 : Lay := y41
theorem lay44 : LayOk Try.prog 44 y44 := layStruct (zs := [.int .i64 0, .int .i64 0]) (by kernel_rfl) rfl (by kernel_rfl) (by kernel_rfl) (by decide) (fun ks h => by injection h with h; subst h; exact ⟨by kernel_rfl, by kernel_rfl⟩)
abbrev y45 : Lay := { zero := [.sl (.tp (.ti .i64) (.tp (.ti .i64) (.tp (.ti .i64) (.tp (.tp (.ti .i64) (.ti .i64)) (.tp (.tp (.ti .i64) (.ti .i64)) (.tp (.ti .i64) (.tp (.ti .i64) (.ti .i64)))))))) []], el := some 10, ety := some (.tp (.ti .i64) (.tp (.ti .i64) (.tp (.ti .i64) (.tp (.tp (.ti .i64) (.ti .i64)) (.tp (.tp (.ti .i64) (.ti .i64)) (.tp (.ti .i64) (.tp (.ti .i64) (.ti .i64))))))), 55, 80) }
theorem lay45 : LayOk Try.prog 45 y45 := laySlice 55 (.tp (.ti .i64) (.tp (.ti .i64) (.tp (.ti .i64) (.tp (.tp (.ti .i64) (.ti .i64)) (.tp (.tp (.ti .i64) (.ti .i64)) (.tp (.ti .i64) (.tp (.ti .i64) (.ti .i64)))))))) 80 (by kernel_rfl) (by kernel_rfl) (by kernel_rfl) (by decide) (by decide)
abbrev y46 : Lay := { size := 5, agg := true, zero := [.lit (.int .i64 0), .lit (.int .i64 0), .lit (.int .i64 0), .lit (.int .i64 0), nilS], fs := [(0, 1), (1, 1), (2, 2), (4, 1)], eqs := none, cv := [(4, (.tp (.ti .i64) (.tp (.ti .i64) (.tp (.ti .i64) (.tp (.tp (.ti .i64) (.ti .i64)) (.tp (.tp (.ti .i64) (.ti .i64)) (.tp (.ti .i64) (.tp (.ti .i64) (.ti .i64))))))), (55, false)))], cz := [(4, .tp (.ti .i64) (.tp (.ti .i64) (.tp (.ti .i64) (.tp (.tp (.ti .i64) (.ti .i64)) (.tp (.tp (.ti .i64) (.ti .i64)) (.tp (.ti .i64) (.tp (.ti .i64) (.ti .i64))))))))] }
theorem lay46 : LayOk Try.prog 46 y46 := layStruct (zs := [.int .i64 0, .int .i64 0, .int .i64 0, .int .i64 0, .slice none 0 0]) (by kernel_rfl) rfl (by kernel_rfl) (by kernel_rfl) (by decide) (fun ks h => by cases h)
abbrev y47 : Lay := y46
theorem lay47 : LayOk Try.prog 47 y47 := layStruct (zs := [.int .i64 0, .int .i64 0, .int .i64 0, .int .i64 0, .slice none 0 0]) (by kernel_rfl) rfl (by kernel_rfl) (by kernel_rfl) (by decide) (fun ks h => by cases h)
abbrev y48 : Lay := y1
theorem lay48 : LayOk Try.prog 48 y48 := layFn (d := (Try.prog.underlying 48).getD .bool) (by kernel_rfl) (by kernel_rfl) (by kernel_rfl)
abbrev y49 : Lay := y1
theorem lay49 : LayOk Try.prog 49 y49 := layFn (d := (Try.prog.underlying 49).getD .bool) (by kernel_rfl) (by kernel_rfl) (by kernel_rfl)
abbrev y50 : Lay := y1
theorem lay50 : LayOk Try.prog 50 y50 := layFn (d := (Try.prog.underlying 50).getD .bool) (by kernel_rfl) (by kernel_rfl) (by kernel_rfl)
abbrev y51 : Lay := y1
theorem lay51 : LayOk Try.prog 51 y51 := layFn (d := (Try.prog.underlying 51).getD .bool) (by kernel_rfl) (by kernel_rfl) (by kernel_rfl)
abbrev y52 : Lay := { size := 3, agg := true, zero := [.lit (.int .i64 0), .lit (.int .i64 0), .lit (.int .i64 0)], fs := [(0, 1), (1, 1), (2, 1)], eqs := some [.i, .i, .i] }
theorem lay52 : LayOk Try.prog 52 y52 := layStruct (zs := [.int .i64 0, .int .i64 0, .int .i64 0]) (by kernel_rfl) rfl (by kernel_rfl) (by kernel_rfl) (by decide) (fun ks h => by injection h with h; subst h; exact ⟨by kernel_rfl, by kernel_rfl⟩)
abbrev y53 : Lay := y52
theorem lay53 : LayOk Try.prog 53 y53 := layStruct (zs := [.int .i64 0, .int .i64 0, .int .i64 0]) (by kernel_rfl) rfl (by kernel_rfl) (by kernel_rfl) (by decide) (fun ks h => by injection h with h; subst h; exact ⟨by kernel_rfl, by kernel_rfl⟩)
abbrev y54 : Lay := { size := 10, agg := true, zero := [.lit (.int .i64 0), .lit (.int .i64 0), .lit (.int .i64 0), .lit (.int .i64 0), .lit (.int .i64 0), .lit (.int .i64 0), .lit (.int .i64 0), .lit (.int .i64 0), .lit (.int .i64 0), .lit (.int .i64 0)], fs := [(0, 1), (1, 1), (2, 1), (3, 2), (5, 2), (7, 3)], eqs := some [.i, .i, .i, .i, .i, .i, .i, .i, .i, .i] }
theorem lay54 : LayOk Try.prog 54 y54 := layStruct (zs := [.int .i64 0, .int .i64 0, .int .i64 0, .int .i64 0, .int .i64 0, .int .i64 0, .int .i64 0, .int .i64 0, .int .i64 0, .int .i64 0]) (by kernel_rfl) rfl (by kernel_rfl) (by kernel_rfl) (by decide) (fun ks h => by injection h with h; subst h; exact ⟨by kernel_rfl, by kernel_rfl⟩)
abbrev y55 : Lay := y54
theorem lay55 : LayOk Try.prog 55 y55 := layStruct (zs := [.int .i64 0, .int .i64 0, .int .i64 0, .int .i64 0, .int .i64 0, .int .i64 0, .int .i64 0, .int .i64 0, .int .i64 0, .int .i64 0]) (by kernel_rfl) rfl (by kernel_rfl) (by kernel_rfl) (by decide) (fun ks h => by injection h with h; subst h; exact ⟨by kernel_rfl, by kernel_rfl⟩)
abbrev y56 : Lay := y1
theorem lay56 : LayOk Try.prog 56 y56 := layFn (d := (Try.prog.underlying 56).getD .bool) (by kernel_rfl) (by kernel_rfl) (by kernel_rfl)
abbrev y57 : Lay := y1
theorem lay57 : LayOk Try.prog 57 y57 := layFn (d := (Try.prog.underlying 57).getD .bool) (by kernel_rfl) (by kernel_rfl) (by kernel_rfl)
abbrev y58 : Lay := y1
theorem lay58 : LayOk Try.prog 58 y58 := layFn (d := (Try.prog.underlying 58).getD .bool) (by kernel_rfl) (by kernel_rfl) (by kernel_rfl)
abbrev y59 : Lay := y1
theorem lay59 : LayOk Try.prog 59 y59 := layFn (d := (Try.prog.underlying 59).getD .bool) (by kernel_rfl) (by kernel_rfl) (by kernel_rfl)
abbrev y60 : Lay := y1
theorem lay60 : LayOk Try.prog 60 y60 := layFn (d := (Try.prog.underlying 60).getD .bool) (by kernel_rfl) (by kernel_rfl) (by kernel_rfl)
abbrev y61 : Lay := y1
theorem lay61 : LayOk Try.prog 61 y61 := layFn (d := (Try.prog.underlying 61).getD .bool) (by kernel_rfl) (by kernel_rfl) (by kernel_rfl)
abbrev y62 : Lay := { zero := [.lit (.map none)], mpt := some (.ti .i64, .tb) }
theorem lay62 : LayOk Try.prog 62 y62 := layMap 3 4 (.ti .i64) (.tb) (.bool false) (by kernel_rfl) (by kernel_rfl) (by kernel_rfl) (by kernel_rfl) (by kernel_rfl) (by kernel_rfl) (by kernel_rfl) (fun h => by cases h) (fun _ => rfl)
abbrev y63 : Lay := y1
theorem lay63 : LayOk Try.prog 63 y63 := layFn (d := (Try.prog.underlying 63).getD .bool) (by kernel_rfl) (by kernel_rfl) (by kernel_rfl)
abbrev y64 : Lay := y1
theorem lay64 : LayOk Try.prog 64 y64 := layFn (d := (Try.prog.underlying 64).getD .bool) (by kernel_rfl) (by kernel_rfl) (by kernel_rfl)
abbrev y65 : Lay := y1
theorem lay65 : LayOk Try.prog 65 y65 := layFn (d := (Try.prog.underlying 65).getD .bool) (by kernel_rfl) (by kernel_rfl) (by kernel_rfl)
abbrev y66 : Lay := y1
theorem lay66 : LayOk Try.prog 66 y66 := layFn (d := (Try.prog.underlying 66).getD .bool) (by kernel_rfl) (by kernel_rfl) (by kernel_rfl)
abbrev y67 : Lay := y1
theorem lay67 : LayOk Try.prog 67 y67 := layFn (d := (Try.prog.underlying 67).getD .bool) (by kernel_rfl) (by kernel_rfl) (by kernel_rfl)
abbrev y68 : Lay := y1
theorem lay68 : LayOk Try.prog 68 y68 := layFn (d := (Try.prog.underlying 68).getD .bool) (by kernel_rfl) (by kernel_rfl) (by kernel_rfl)
abbrev y69 : Lay := y1
theorem lay69 : LayOk Try.prog 69 y69 := layFn (d := (Try.prog.underlying 69).getD .bool) (by kernel_rfl) (by kernel_rfl) (by kernel_rfl)
abbrev y70 : Lay := y1
theorem lay70 : LayOk Try.prog 70 y70 := layFn (d := (Try.prog.underlying 70).getD .bool) (by kernel_rfl) (by kernel_rfl) (by kernel_rfl)
abbrev y71 : Lay := y1
theorem lay71 : LayOk Try.prog 71 y71 := layFn (d := (Try.prog.underlying 71).getD .bool) (by kernel_rfl) (by kernel_rfl) (by kernel_rfl)
abbrev y72 : Lay := y1
theorem lay72 : LayOk Try.prog 72 y72 := layFn (d := (Try.prog.underlying 72).getD .bool) (by kernel_rfl) (by kernel_rfl) (by kernel_rfl)
abbrev y73 : Lay := y1
theorem lay73 : LayOk Try.prog 73 y73 := layFn (d := (Try.prog.underlying 73).getD .bool) (by kernel_rfl) (by kernel_rfl) (by kernel_rfl)
abbrev y74 : Lay := { size := 4, agg := true, zero := [.lit (.int .i64 0), .lit (.int .i64 0), .lit (.int .i64 0), .lit (.bool false)], fs := [(0, 2), (2, 1), (3, 1)], eqs := some [.i, .i, .i, .b] }
theorem lay74 : LayOk Try.prog 74 y74 := layStruct (zs := [.int .i64 0, .int .i64 0, .int .i64 0, .bool false]) (by kernel_rfl) rfl (by kernel_rfl) (by kernel_rfl) (by decide) (fun ks h => by injection h with h; subst h; exact ⟨by kernel_rfl, by kernel_rfl⟩)
abbrev y75 : Lay := y74
theorem lay75 : LayOk Try.prog 75 y75 := layStruct (zs := [.int .i64 0, .int .i64 0, .int .i64 0, .bool false]) (by kernel_rfl) rfl (by kernel_rfl) (by kernel_rfl) (by decide) (fun ks h => by injection h with h; subst h; exact ⟨by kernel_rfl, by kernel_rfl⟩)
abbrev y76 : Lay := y1
theorem lay76 : LayOk Try.prog 76 y76 := layFn (d := (Try.prog.underlying 76).getD .bool) (by kernel_rfl) (by kernel_rfl) (by kernel_rfl)
abbrev y77 : Lay := y1
theorem lay77 : LayOk Try.prog 77 y77 := layFn (d := (Try.prog.underlying 77).getD .bool) (by kernel_rfl) (by kernel_rfl) (by kernel_rfl)
abbrev y78 : Lay := y1
theorem lay78 : LayOk Try.prog 78 y78 := layFn (d := (Try.prog.underlying 78).getD .bool) (by kernel_rfl) (by kernel_rfl) (by kernel_rfl)
abbrev y79 : Lay := { zero := [.lit (.map none)], mpt := some (.tp (.ti .i64) (.ti .i64), .tb) }
theorem lay79 : LayOk Try.prog 79 y79 := layMap 44 4 (.tp (.ti .i64) (.ti .i64)) (.tb) (.bool false) (by kernel_rfl) (by kernel_rfl) (by kernel_rfl) (by kernel_rfl) (by kernel_rfl) (by kernel_rfl) (by kernel_rfl) (fun h => by cases h) (fun _ => rfl)
abbrev y80 : Lay := y1
theorem lay80 : LayOk Try.prog 80 y80 := layFn (d := (Try.prog.underlying 80).getD .bool) (by kernel_rfl) (by kernel_rfl) (by kernel_rfl)
abbrev y81 : Lay := y41
theorem lay81 : LayOk Try.prog 81 y81 := layStruct (zs := [.int .i64 0, .int .i64 0]) (by kernel_rfl) rfl (by kernel_rfl) (by kernel_rfl) (by decide) (fun ks h => by injection h with h; subst h; exact ⟨by kernel_rfl, by kernel_rfl⟩)
abbrev y82 : Lay := y41
theorem lay82 : LayOk Try.prog 82 y82 := layStruct (zs := [.int .i64 0, .int .i64 0]) (by kernel_rfl) rfl (by kernel_rfl) (by kernel_rfl) (by decide) (fun ks h => by injection h with h; subst h; exact ⟨by kernel_rfl, by kernel_rfl⟩)
abbrev y83 : Lay := y1
theorem lay83 : LayOk Try.prog 83 y83 := layFn (d := (Try.prog.underlying 83).getD .bool) (by kernel_rfl) (by kernel_rfl) (by kernel_rfl)
abbrev y84 : Lay := y1
theorem lay84 : LayOk Try.prog 84 y84 := layFn (d := (Try.prog.underlying 84).getD .bool) (by kernel_rfl) (by kernel_rfl) (by kernel_rfl)
abbrev y85 : Lay := y1
theorem lay85 : LayOk Try.prog 85 y85 := layFn (d := (Try.prog.underlying 85).getD .bool) (by kernel_rfl) (by kernel_rfl) (by kernel_rfl)
abbrev y91 : Lay := y1
theorem lay91 : LayOk Try.prog 91 y91 := layFn (d := (Try.prog.underlying 91).getD .bool) (by kernel_rfl) (by kernel_rfl) (by kernel_rfl)
abbrev y92 : Lay := { zero := [.lit (.int .u32 0)], kind := some .u32 }
theorem lay92 : LayOk Try.prog 92 y92 := layInt .u32 (by kernel_rfl) (by kernel_rfl)
abbrev y95 : Lay := y1
theorem lay95 : LayOk Try.prog 95 y95 := layFn (d := (Try.prog.underlying 95).getD .bool) (by kernel_rfl) (by kernel_rfl) (by kernel_rfl)
abbrev y96 : Lay := { zero := [.lit (.pointer none)] }
theorem lay96 : LayOk Try.prog 96 y96 := layOne (d := (Try.prog.underlying 96).getD .bool) (z := .pointer none) (k := none) (by kernel_rfl) (by kernel_rfl) (by kernel_rfl) (fun _ _ => .lit rfl) (fun q h => by cases h)
abbrev y101 : Lay := y1
theorem lay101 : LayOk Try.prog 101 y101 := layFn (d := (Try.prog.underlying 101).getD .bool) (by kernel_rfl) (by kernel_rfl) (by kernel_rfl)
def L0 : Nat → Option Lay := Sy.look [(1, y1), (2, y2), (3, y3), (4, y4), (5, y5), (9, y9), (12, y12), (21, y21), (22, y22), (23, y23), (24, y24), (25, y25), (26, y26), (27, y27), (28, y28), (29, y29), (31, y31), (32, y32), (34, y34), (35, y35), (36, y36), (37, y37), (38, y38), (40, y40), (41, y41), (42, y42), (43, y43), (44, y44), (45, y45), (46, y46), (47, y47), (48, y48), (49, y49), (50, y50), (51, y51), (52, y52), (53, y53), (54, y54), (55, y55), (56, y56), (57, y57), (58, y58), (59, y59), (60, y60), (61, y61), (62, y62), (63, y63), (64, y64), (65, y65), (66, y66), (67, y67), (68, y68), (69, y69), (70, y70), (71, y71), (72, y72), (73, y73), (74, y74), (75, y75), (76, y76), (77, y77), (78, y78), (79, y79), (80, y80), (81, y81), (82, y82), (83, y83), (84, y84), (85, y85), (91, y91), (92, y92), (95, y95), (96, y96), (101, y101)]
theorem L0_ok : LOk Try.prog L0 := by
  refine look_ok fun q hq => ?_
  simp only [List.mem_cons, List.not_mem_nil, or_false] at hq
  rcases hq with rfl | rfl | rfl | rfl | rfl | rfl | rfl | rfl | rfl | rfl | rfl | rfl | rfl | rfl | rfl | rfl | rfl | rfl | rfl | rfl | rfl | rfl | rfl | rfl | rfl | rfl | rfl | rfl | rfl | rfl | rfl | rfl | rfl | rfl | rfl | rfl | rfl | rfl | rfl | rfl | rfl | rfl | rfl | rfl | rfl | rfl | rfl | rfl | rfl | rfl | rfl | rfl | rfl | rfl | rfl | rfl | rfl | rfl | rfl | rfl | rfl | rfl | rfl | rfl | rfl | rfl | rfl | rfl | rfl | rfl | rfl | rfl | rfl | rfl
  · exact lay1
  · exact lay2
  · exact lay3
  · exact lay4
  · exact lay5
  · exact lay9
  · exact lay12
  · exact lay21
  · exact lay22
  · exact lay23
  · exact lay24
  · exact lay25
  · exact lay26
  · exact lay27
  · exact lay28
  · exact lay29
  · exact lay31
  · exact lay32
  · exact lay34
  · exact lay35
  · exact lay36
  · exact lay37
  · exact lay38
  · exact lay40
  · exact lay41
  · exact lay42
  · exact lay43
  · exact lay44
  · exact lay45
  · exact lay46
  · exact lay47
  · exact lay48
  · exact lay49
  · exact lay50
  · exact lay51
  · exact lay52
  · exact lay53
  · exact lay54
  · exact lay55
  · exact lay56
  · exact lay57
  · exact lay58
  · exact lay59
  · exact lay60
  · exact lay61
  · exact lay62
  · exact lay63
  · exact lay64
  · exact lay65
  · exact lay66
  · exact lay67
  · exact lay68
  · exact lay69
  · exact lay70
  · exact lay71
  · exact lay72
  · exact lay73
  · exact lay74
  · exact lay75
  · exact lay76
  · exact lay77
  · exact lay78
  · exact lay79
  · exact lay80
  · exact lay81
  · exact lay82
  · exact lay83
  · exact lay84
  · exact lay85
  · exact lay91
  · exact lay92
  · exact lay95
  · exact lay96
  · exact lay101
def LV (os vs : List Nat) (wr : Bool) : Nat → Option Lay := LVar L0 os vs wr
theorem LV_ok (os vs : List Nat) (wr : Bool) : LOk Try.prog (LV os vs wr) := LVar_ok L0_ok os vs wr
def L : Nat → Option Lay := LV [] [] false
theorem L_ok : LOk Try.prog L := LV_ok [] [] false
theorem mixed : Try.prog.follows .mixedOrders = true := by kernel_rfl
end Go.Proofs.Ytdkggjgmlccjcaa
