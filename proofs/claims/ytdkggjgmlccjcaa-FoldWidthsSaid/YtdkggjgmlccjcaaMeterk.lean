/- The functions meet their contracts. Written by a program (wip/tools/gen.py). -/
import Derived.Test.YtdkggjgmlccjcaaMeterq
namespace Go.Proofs.Ytdkggjgmlccjcaa
open Go.Sy Go.RatLaw
set_option linter.unusedVariables false
set_option maxHeartbeats 4000000
set_option maxRecDepth 100000
set_option linter.unusedSimpArgs false

theorem ok_Ticks : FnOk Try.prog 42 (CE.pu c_Ticks).con := okP [(45, .pu cGcd)] L_ok ⟨ok45, trivial⟩ mixed Try.func42 fun args cs r h hcs => by
  unfold c_Ticks at h
  split at h; rotate_left; cases h
  rename_i n d
  injection h with h; injection h with h1 h2; subst h1 h2
  exact puV [0, 1, 2, 29] nA nR (okV (p_Ticks n d) (by kernel_rfl))
end Go.Proofs.Ytdkggjgmlccjcaa
