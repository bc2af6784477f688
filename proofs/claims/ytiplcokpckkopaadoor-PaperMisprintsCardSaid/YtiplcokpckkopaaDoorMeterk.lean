/- The functions meet their contracts. Written by a program (wip/tools/gen.py). -/
import Derived.Test.YtiplcokpckkopaaDoorMeterq
namespace Go.Proofs.YtiplcokpckkopaaDoor
open Go.Sy Go.RatLaw
set_option linter.unusedVariables false

abbrev T_Ticks : Tab := [(65, .pu cGcd)]
theorem T_Ticks_ok : TOk Tryd.prog T_Ticks := ⟨ok65, trivial⟩
theorem ok_Ticks : FnOk Tryd.prog 58 (CE.pu c_Ticks).con := fnPuR T_Ticks c_Ticks L_ok T_Ticks_ok mixed Tryd.func58 (by kernel_rfl) (by kernel_rfl) fun args cs r h hcs => by
  unfold c_Ticks at h
  split at h
  · rename_i n d
    injection h with h; injection h with h1 h2; subst h1 h2
    exact ⟨[0, 1, 2, 29], (fun _ _ => none), (fun _ _ => none), rfl, rfl, rfl, castH (p := P_Ticks n d) (by kernel_rfl) (p_Ticks n d)⟩
  · cases h
end Go.Proofs.YtiplcokpckkopaaDoor
