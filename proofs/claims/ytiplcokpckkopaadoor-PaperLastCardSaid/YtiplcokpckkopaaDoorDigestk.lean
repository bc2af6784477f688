/- The functions meet their contracts. Written by a program (wip/tools/gen.py). -/
import Derived.Test.YtiplcokpckkopaaDoorDigestq
import Derived.Test.YtiplcokpckkopaaDoorMeterk
import Derived.Test.YtiplcokpckkopaaDoorFoldk
namespace Go.Proofs.YtiplcokpckkopaaDoor
open Go.Sy Go.RatLaw
set_option linter.unusedVariables false
set_option maxHeartbeats 4000000
set_option maxRecDepth 100000
set_option linter.unusedSimpArgs false

abbrev T_run1 : Tab := []
theorem T_run1_ok : TOk Tryd.prog T_run1 := trivial
noncomputable abbrev V_run1 (d : Int) (l : List Int) : VC := vcGe L T_run1 Tryd.f67 [0, 1, 4, 5, 6, 7, 8, 15] (fun _ _ => some { X := Nat, inv := fun x => x ≤ l.length, m := fun x => l.length - x, s := fun x => [(7, .t (I x))], h := fun x => [(2000, CD (dig d (l.take x)))] }) [LU l, .one (.ptr 2000 0)] [(2000, CD d)] (.tup []) [(2000, CD (dig d l))]
theorem v_run1 (d : Int) (l : List Int) : (V_run1 d l).holds = P_run1 d l := by kernel_rfl
theorem ok_run1 : FnOk Tryd.prog 67 (CE.gen c_run1).con := fnGe T_run1 c_run1 L_ok T_run1_ok mixed Tryd.func67 (by kernel_rfl) (by kernel_rfl) fun args hp fr cs r up h hcs => by
 unfold c_run1 at h
 split at h
 ·rename_i l p
  split at h
  ·rename_i d hpp
   injection h with h; injection h with h1 h2; injection h2 with h2 h3; subst h1 h2 h3
   exact ⟨[0, 1, 4, 5, 6, 7, 8, 15], (fun _ _ => some { X := Nat, inv := fun x => x ≤ l.length, m := fun x => l.length - x, s := fun x => [(7, .t (I x))], h := fun x => [(2000, CD (dig d (l.take x)))] }), nR, [(2000, p)], [], [LU l, .one (.ptr 2000 0)], [(2000, CD d)], .tup [], [(2000, CD (dig d l))],
    Meets.of [(2000, p)] [] _ _ _ _ (by simp) (by simp) rfl rfl
     (by simp only [List.forall_mem_cons]; exact ⟨⟨_, rfl, hpp⟩, fun _ h => by cases h⟩) (fun q hq => by cases hq)
     (by simp only [List.append_nil, List.forall_mem_cons]; refine ⟨fun o ho => ?_, fun _ h => by cases h⟩; injection ho with ho; subst ho; exact upd1 _ _ _)
     (by simp) rfl rfl rfl rfl rfl rfl rfl (castH (v_run1 d l) (p_run1 d l))⟩
  ·cases h
 ·cases h
abbrev T_run2 : Tab := []
theorem T_run2_ok : TOk Tryd.prog T_run2 := trivial
noncomputable abbrev V_run2 (d : Int) : VC := vcGe L T_run2 Tryd.f68 [0, 1] (fun _ _ => none) [.one (.ptr 2000 0)] [(2000, CD d)] (.t (U64 d)) [(2000, CD d)]
theorem v_run2 (d : Int) : (V_run2 d).holds = P_run2 d := by kernel_rfl
theorem ok_run2 : FnOk Tryd.prog 68 (CE.gen c_run2).con := fnGe T_run2 c_run2 L_ok T_run2_ok mixed Tryd.func68 (by kernel_rfl) (by kernel_rfl) fun args hp fr cs r up h hcs => by
 unfold c_run2 at h
 split at h
 ·rename_i p
  split at h
  ·rename_i d hpp
   injection h with h; injection h with h1 h2; injection h2 with h2 h3; subst h1 h2 h3
   exact ⟨[0, 1], nA, nR, [(2000, p)], [], [.one (.ptr 2000 0)], [(2000, CD d)], _, _,
    Meets.reads1 p [.one (.ptr 2000 0)] (CD d) (.t (U64 d)) hpp rfl rfl rfl rfl rfl rfl (castH (v_run2 d) (p_run2 d))⟩
  ·cases h
 ·cases h
abbrev T_run : Tab := [(67, .gen c_run1), (68, .gen c_run2)]
theorem T_run_ok : TOk Tryd.prog T_run := ⟨ok_run1, ok_run2, trivial⟩
noncomputable abbrev V_run  : VC := vcGe L T_run Tryd.f62 [0, 1, 2, 3] (fun _ _ => none) [] [] (.tup [.one (.clo 67 [] [(2, 0)]), .one (.clo 68 [] [(2, 0)])]) [(2, CD 14695981039346656037)]
theorem v_run  : (V_run ).holds = P_run  := by kernel_rfl
theorem ok_run : FnOk Tryd.prog 62 (CE.gen c_run).con := fnGe T_run c_run L_ok T_run_ok mixed Tryd.func62 (by kernel_rfl) (by kernel_rfl) fun args hp fr cs r up h hcs => by
 unfold c_run at h
 split at h
 ·split at h
  ·rename_i hf
   injection h with h; injection h with h1 h2; injection h2 with h2 h3; subst h1 h2 h3
   exact ⟨[0, 1, 2, 3], nA, nR, [], [(2, fr)], [], [], .tup [.one (.clo 67 [] [(2, 0)]), .one (.clo 68 [] [(2, 0)])], [(2, CD 14695981039346656037)],
    Meets.of [] [(2, fr)] _ _ _ _ (by simp) (by simp) rfl rfl (fun q hq => by cases hq)
     (by simp only [List.forall_mem_cons]; exact ⟨hf, fun _ h => by cases h⟩)
     (by simp only [List.nil_append, List.forall_mem_cons]; refine ⟨fun o ho => ?_, fun _ h => by cases h⟩; injection ho with ho; subst ho; exact upd1 _ _ _)
     (by simp) rfl rfl rfl rfl rfl rfl rfl (castH v_run p_run)⟩
  ·cases h
 ·cases h
theorem ok_next : FnOk Tryd.prog 54 (CE.pu c_next).con := okP [(62, .gen c_run), (63, .pu c_itoa), (67, .gen c_run1), (68, .gen c_run2)] L_ok ⟨ok_run, ok63, ok_run1, ok_run2, trivial⟩ mixed Tryd.func54 fun args cs r h hcs => by
 unfold c_next at h
 split at h; rotate_left; cases h
 rename_i d l
 injection h with h; injection h with h1 h2; subst h1 h2
 exact puV [0, 1, 4, 5, 6, 7, 9, 11, 17, 26, 27, 28, 29, 30, 35, 36, 37, 43, 46] (fun i σ => if i = 3 then some { X := Nat, inv := fun x => x ≤ 8, m := fun x => 8 - x, s := fun x => [(7, .t (I (56 - 8 * x)))], h := fun x => [(101300, CD (dig dig0 ((eightB d).take x)))] } else if i = 7 then some { X := Nat, inv := fun x => x ≤ l.length, m := fun x => l.length - x, s := fun x => [(29, .t (I x))], h := fun x => [(101300, CD (sumS (textS d (l.take x))))] } else some { X := Nat, inv := fun y => y ≤ (itoaB (List.getD (α := Int) l (dI (slD σ 29)).toNat 0)).length, m := fun y => (itoaB (List.getD (α := Int) l (dI (slD σ 29)).toNat 0)).length - y, s := fun _ => [], h := fun y => [(35, .it (itoaS (List.getD (α := Int) l (dI (slD σ 29)).toNat 0)) y), (101300, CD (dig (sumS (textS d (l.take (dI (slD σ 29)).toNat))) ((itoaB (List.getD (α := Int) l (dI (slD σ 29)).toNat 0)).take y)))] }) nR (okV (p_next d l (hcs _ (.head _))) (by kernel_rfl))
theorem ok_chain : FnOk Tryd.prog 36 (CE.pu c_chain).con := okP [(54, .pu c_next)] L_ok ⟨ok_next, trivial⟩ mixed Tryd.func36 fun args cs r h hcs => by
 unfold c_chain at h
 split at h; rotate_left; cases h
 rename_i l
 injection h with h; injection h with h1 h2; subst h1 h2
 exact puV [0, 2, 3, 5, 6, 7, 8, 9] (fun _ _ => some { X := Nat, inv := fun x => x ≤ l.length, m := fun x => l.length - x, s := fun x => [(8, .t (I x)), (3, .t (U64 (chainS (l.take x))))] }) nR (okV (p_chain l (hcs _ (.head _))) (by kernel_rfl))
theorem ok_rSum : FnOk Tryd.prog 37 (CE.pu c_rSum).con := okP [] L_ok trivial mixed Tryd.func37 fun args cs r h hcs => by
 unfold c_rSum at h
 split at h; rotate_left; cases h
 rename_i l
 injection h with h; injection h with h1 h2; subst h1 h2
 exact puV [0, 2, 3, 4, 8] (fun _ _ => some { X := Nat, inv := fun x => x ≤ l.length, m := fun x => l.length - x, s := fun x => [(4, .t (I x)), (3, .t (U64 (sumS (l.take x))))] }) nR (okV (p_rSum l) (by kernel_rfl))
theorem ok_rDec : FnOk Tryd.prog 64 (CE.pu c_rDec).con := okP [] L_ok trivial mixed Tryd.func64 fun args cs r h hcs => by
 unfold c_rDec at h
 split at h; rotate_left; cases h
 rename_i n
 injection h with h; injection h with h1 h2; subst h1 h2
 exact puV [0, 2, 3, 4, 5, 6, 7, 9, 12, 18, 28, 36] (fun i σ => if i = 5 then some { X := Nat × Int, inv := fun q => InI64 q.2 ∧ q.1 ≤ 20 ∧ digsR n 20 = digsR n q.1 ++ digsR q.2 (20 - q.1) ∧ q.2.natAbs < 10 ^ (20 - q.1) ∧ (digsR n q.1).length = q.1, m := fun q => q.2.natAbs, s := fun q => [(4, .t (I q.2)), (3, .t (.one (.own (rm 3) (.sl (.ti .u8) (digsR n q.1)))))], h := fun q => [(rm 3, .gr 5 1 (digsR n q.1).length)] } else some { X := Nat, inv := fun y => y ≤ (dL (.ti .u8) (slD σ 3)).length, m := fun y => (dL (.ti .u8) (slD σ 3)).length - y, s := fun y => [(7, .t (I ((dL (.ti .u8) (slD σ 3)).length - 1 - y))), (6, .t (.one (.own (rm 6) (.sl (.ti .u8) ((dL (.ti .u8) (slD σ 3)).reverse.take y)))))], h := fun y => [(rm 6, .gr 5 1 ((dL (.ti .u8) (slD σ 3)).reverse.take y).length)] }) nR (okV (p_rDec n (hcs _ (.head _))) (by kernel_rfl))
theorem ok_rText : FnOk Tryd.prog 55 (CE.pu c_rText).con := okP [(64, .pu c_rDec)] L_ok ⟨ok_rDec, trivial⟩ mixed Tryd.func55 fun args cs r h hcs => by
 unfold c_rText at h
 split at h; rotate_left; cases h
 rename_i d l
 injection h with h; injection h with h1 h2; subst h1 h2
 exact puV [0, 1, 4, 5, 6, 7, 9, 24] (fun i _ => if i = 3 then some { X := Nat, inv := fun x => x ≤ 8, m := fun x => 8 - x, s := fun x => [(6, .t (I x)), (5, .t (.one (.own (rm 5) (.sl (.ti .u8) ((eightB d).take x)))))], h := fun x => [(rm 5, .gr 5 1 ((eightB d).take x).length)] } else some { X := Nat, inv := fun x => x ≤ l.length, m := fun x => l.length - x, s := fun x => [(7, .t (I x)), (5, .t (.one (.own (rm 5) (.sl (.ti .u8) (textS d (l.take x))))))], h := fun x => [(rm 5, .gr 5 1 (textS d (l.take x)).length)] }) nR (okV (p_rText d l (hcs _ (.head _)) (hcs _ (.tail _ (.head _)))) (by kernel_rfl))
theorem ok_rNext : FnOk Tryd.prog 38 (CE.pu c_rNext).con := okP [(37, .pu c_rSum), (55, .pu c_rText)] L_ok ⟨ok_rSum, ok_rText, trivial⟩ mixed Tryd.func38 fun args cs r h hcs => by
 unfold c_rNext at h
 split at h; rotate_left; cases h
 rename_i d l
 injection h with h; injection h with h1 h2; subst h1 h2
 exact puV [0, 1, 4] nA nR (okV (p_rNext d l (hcs _ (.head _)) (hcs _ (.tail _ (.head _)))) (by kernel_rfl))
theorem ok_rChain : FnOk Tryd.prog 26 (CE.pu c_rChain).con := okP [(37, .pu c_rSum), (38, .pu c_rNext)] L_ok ⟨ok_rSum, ok_rNext, trivial⟩ mixed Tryd.func26 fun args cs r h hcs => by
 unfold c_rChain at h
 split at h; rotate_left; cases h
 rename_i l
 injection h with h; injection h with h1 h2; subst h1 h2
 exact puV [0, 2, 3, 4, 5, 10] (fun _ _ => some { X := Nat, inv := fun x => x ≤ l.length, m := fun x => l.length - x, s := fun x => [(4, .t (I x)), (3, .t (U64 (chainS (l.take x))))] }) nR (okV (p_rChain l (hcs _ (.head _))) (by kernel_rfl))
end Go.Proofs.YtiplcokpckkopaaDoor
