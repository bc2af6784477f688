/- The functions meet their contracts. Written by a program (wip/tools/gen.py). -/
import Derived.Test.YtiplcokpckkopaaDoorPapernq
namespace Go.Proofs.YtiplcokpckkopaaDoor
open Go.Sy Go.RatLaw
set_option linter.unusedVariables false

abbrev T_PMis : Tab := [(8, .pu c_xhead), (12, .pu c_zprint), (15, .pu c_zright), (17, .pu c_xuse)]
theorem T_PMis_ok : TOk Tryd.prog T_PMis := ⟨ok_xhead, ok_zprint, ok_zright, ok_xuse, trivial⟩
theorem ok_PMis : FnOk Tryd.prog 5 (CE.pu c_PMis).con := fnPuR T_PMis c_PMis (LV_ok [] [] true) T_PMis_ok mixed Tryd.func5 (by kernel_rfl) (by kernel_rfl) fun args cs r h hcs => by
  unfold c_PMis at h
  split at h
  · rename_i p ms l pages wh ho g
    injection h with h; injection h with h1 h2; subst h1 h2
    exact ⟨[0, 1, 2, 3, 4, 5, 6, 12, 13, 14, 15, 16, 17, 18, 33, 50, 60, 61, 67, 68, 73, 74, 84], (fun _ _ => none), (fun _ _ => none), rfl, rfl, rfl, castH (p := P_PMis p ms l pages wh ho g) (by kernel_rfl) (p_PMis p ms l pages wh ho g (hcs _ (.head _)) (hcs _ (.tail _ (.head _))) (hcs _ (.tail _ (.tail _ (.head _)))) (hcs _ (.tail _ (.tail _ (.tail _ (.head _))))) (hcs _ (.tail _ (.tail _ (.tail _ (.tail _ (.head _)))))) (hcs _ (.tail _ (.tail _ (.tail _ (.tail _ (.tail _ (.head _))))))) (hcs _ (.tail _ (.tail _ (.tail _ (.tail _ (.tail _ (.tail _ (.head _)))))))) (hcs _ (.tail _ (.tail _ (.tail _ (.tail _ (.tail _ (.tail _ (.tail _ (.head _))))))))))⟩
  · cases h
end Go.Proofs.YtiplcokpckkopaaDoor
