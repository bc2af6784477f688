/- The functions meet their contracts. Written by a program (wip/tools/gen.py). -/
import Derived.Test.YtiplcokpckkopaaDoorPapermq
namespace Go.Proofs.YtiplcokpckkopaaDoor
open Go.Sy Go.RatLaw
set_option linter.unusedVariables false

abbrev T_PPrints : Tab := [(8, .pu c_xhead), (10, .pu c_zpdig), (12, .pu c_zprint), (15, .pu c_zright), (17, .pu c_xuse), (18, .pu c_xnum)]
theorem T_PPrints_ok : TOk Tryd.prog T_PPrints := ⟨ok_xhead, ok_zpdig, ok_zprint, ok_zright, ok_xuse, ok_xnum, trivial⟩
theorem ok_PPrints : FnOk Tryd.prog 4 (CE.pu c_PPrints).con := fnPuR T_PPrints c_PPrints L_ok T_PPrints_ok mixed Tryd.func4 (by kernel_rfl) (by kernel_rfl) fun args cs r h hcs => by
  unfold c_PPrints at h
  split at h
  · rename_i p ms l pages ed ve id ot
    injection h with h; injection h with h1 h2; subst h1 h2
    exact ⟨[0, 1, 2, 3, 4, 5, 6, 7, 14, 15, 16, 17, 18, 19, 20, 21, 22, 23, 24, 25, 31, 78, 79, 80, 81, 82], (fun _ _ => some { X := Nat, inv := fun x => x ≤ pages.length, m := fun x => pages.length - x, s := fun x => [(81, .t (I x)), (15, .t (B true))] }), (fun _ _ => none), rfl, rfl, rfl, castH (p := P_PPrints p ms l pages ed ve id ot) (by kernel_rfl) (p_PPrints p ms l pages ed ve id ot (hcs _ (.head _)) (hcs _ (.tail _ (.head _))) (hcs _ (.tail _ (.tail _ (.head _)))) (hcs _ (.tail _ (.tail _ (.tail _ (.head _))))) (hcs _ (.tail _ (.tail _ (.tail _ (.tail _ (.head _)))))) (hcs _ (.tail _ (.tail _ (.tail _ (.tail _ (.tail _ (.head _))))))) (hcs _ (.tail _ (.tail _ (.tail _ (.tail _ (.tail _ (.tail _ (.head _)))))))) (hcs _ (.tail _ (.tail _ (.tail _ (.tail _ (.tail _ (.tail _ (.tail _ (.head _))))))))) (hcs _ (.tail _ (.tail _ (.tail _ (.tail _ (.tail _ (.tail _ (.tail _ (.tail _ (.head _)))))))))) (hcs _ (.tail _ (.tail _ (.tail _ (.tail _ (.tail _ (.tail _ (.tail _ (.tail _ (.tail _ (.head _))))))))))))⟩
  · cases h
end Go.Proofs.YtiplcokpckkopaaDoor
