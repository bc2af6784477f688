/- The functions meet their contracts. Written by a program (wip/tools/gen.py). -/
import Derived.Test.YtiplcokpckkopaaDoorPaperlq
import Derived.Test.YtiplcokpckkopaaDoorMeterk
import Derived.Test.YtiplcokpckkopaaDoorFoldk
import Derived.Test.YtiplcokpckkopaaDoorDigestk
import Derived.Test.YtiplcokpckkopaaDoorPaperk
namespace Go.Proofs.YtiplcokpckkopaaDoor
open Go.Sy Go.RatLaw
set_option linter.unusedVariables false
set_option maxHeartbeats 4000000
set_option maxRecDepth 100000
set_option linter.unusedSimpArgs false

theorem ok_xex : FnOk Tryd.prog 20 (CE.pu c_xex).con := okP [(33, .pu c_zrat)] L_ok ⟨ok_zrat, trivial⟩ mixed Tryd.func20 fun args cs r h hcs => by
  unfold c_xex at h
  split at h; rotate_left; cases h
  injection h with h; injection h with h1 h2; subst h1 h2
  exact puV [0, 1, 2, 3] nA nR (okV (p_xex ) (by kernel_rfl))
theorem ok_xhead : FnOk Tryd.prog 8 (CE.pu c_xhead).con := okP [(10, .pu c_zpdig), (12, .pu c_zprint), (15, .pu c_zright), (20, .pu c_xex)] L_ok ⟨ok_zpdig, ok_zprint, ok_zright, ok_xex, trivial⟩ mixed Tryd.func8 fun args cs r h hcs => by
  unfold c_xhead at h
  split at h; rotate_left; cases h
  injection h with h; injection h with h1 h2; subst h1 h2
  exact puV [0, 1, 2, 3, 4, 5, 6, 7, 8, 9, 10, 11, 12, 14, 16, 18, 19, 40, 58] nA nR (okV (p_xhead ) (by kernel_rfl))
theorem ok_xuse : FnOk Tryd.prog 17 (CE.pu c_xuse).con := okP [(9, .pu c_zfew), (30, .pu c_zrarepg)] L_ok ⟨ok_zfew, ok_zrarepg, trivial⟩ mixed Tryd.func17 fun args cs r h hcs => by
  unfold c_xuse at h
  split at h; rotate_left; cases h
  rename_i p ms l pages
  injection h with h; injection h with h1 h2; subst h1 h2
  exact puV [0, 1, 2, 3, 6] nA nR (okV (p_xuse p ms l pages) (by kernel_rfl))
theorem ok_xnum : FnOk Tryd.prog 18 (CE.pu c_xnum).con := okP [] L_ok trivial mixed Tryd.func18 fun args cs r h hcs => by
  unfold c_xnum at h
  split at h; rotate_left; cases h
  rename_i n
  injection h with h; injection h with h1 h2; subst h1 h2
  exact puV [0, 2] nA nR (okV (p_xnum n (hcs _ (.head _)) (hcs _ (.tail _ (.head _)))) (by kernel_rfl))
theorem ok_PMatches : FnOk Tryd.prog 3 (CE.pu c_PMatches).con := okP [(8, .pu c_xhead), (9, .pu c_zfew), (10, .pu c_zpdig), (11, .pu c_zrdig), (12, .pu c_zprint), (13, .pu c_zrprint), (14, .pu c_zsame), (15, .pu c_zright), (16, .pu c_zrright)] L_ok ⟨ok_xhead, ok_zfew, ok_zpdig, ok_zrdig, ok_zprint, ok_zrprint, ok_zsame, ok_zright, ok_zrright, trivial⟩ mixed Tryd.func3 fun args cs r h hcs => by
  unfold c_PMatches at h
  split at h; rotate_left; cases h
  rename_i p ms l f u pages a b c d e g ed ve id
  injection h with h; injection h with h1 h2; subst h1 h2
  exact puV [0, 1, 2, 3, 4, 5, 6, 7, 8, 10, 12, 16, 17, 18, 19, 20, 21, 22, 23, 24, 25, 31] nA nR (okV (p_PMatches p ms l f u pages a b c d e g ed ve id (hcs _ (.head _)) (hcs _ (.tail _ (.head _)))) (by kernel_rfl))
end Go.Proofs.YtiplcokpckkopaaDoor
