/- The functions meet their contracts. Written by a program (wip/tools/gen.py). -/
import Derived.Test.YtiplcokpckkopaaDoorPaperlq
namespace Go.Proofs.YtiplcokpckkopaaDoor
open Go.Sy Go.RatLaw
set_option linter.unusedVariables false

abbrev T_xex : Tab := [(33, .pu c_zrat)]
theorem T_xex_ok : TOk Tryd.prog T_xex := ⟨ok_zrat, trivial⟩
theorem ok_xex : FnOk Tryd.prog 20 (CE.pu c_xex).con := fnPuR T_xex c_xex L_ok T_xex_ok mixed Tryd.func20 (by kernel_rfl) (by kernel_rfl) fun args cs r h hcs => by
  unfold c_xex at h
  split at h
  · skip
    injection h with h; injection h with h1 h2; subst h1 h2
    exact ⟨[0, 1, 2, 3], (fun _ _ => none), (fun _ _ => none), rfl, rfl, rfl, castH (p := P_xex ) (by kernel_rfl) (p_xex )⟩
  · cases h
abbrev T_xhead : Tab := [(10, .pu c_zpdig), (12, .pu c_zprint), (15, .pu c_zright), (20, .pu c_xex)]
theorem T_xhead_ok : TOk Tryd.prog T_xhead := ⟨ok_zpdig, ok_zprint, ok_zright, ok_xex, trivial⟩
theorem ok_xhead : FnOk Tryd.prog 8 (CE.pu c_xhead).con := fnPuR T_xhead c_xhead L_ok T_xhead_ok mixed Tryd.func8 (by kernel_rfl) (by kernel_rfl) fun args cs r h hcs => by
  unfold c_xhead at h
  split at h
  · skip
    injection h with h; injection h with h1 h2; subst h1 h2
    exact ⟨[0, 1, 2, 3, 4, 5, 6, 7, 8, 9, 10, 11, 12, 14, 16, 18, 19, 40, 58], (fun _ _ => none), (fun _ _ => none), rfl, rfl, rfl, castH (p := P_xhead ) (by kernel_rfl) (p_xhead )⟩
  · cases h
abbrev T_xuse : Tab := [(9, .pu c_zfew), (30, .pu c_zrarepg)]
theorem T_xuse_ok : TOk Tryd.prog T_xuse := ⟨ok_zfew, ok_zrarepg, trivial⟩
theorem ok_xuse : FnOk Tryd.prog 17 (CE.pu c_xuse).con := fnPuR T_xuse c_xuse L_ok T_xuse_ok mixed Tryd.func17 (by kernel_rfl) (by kernel_rfl) fun args cs r h hcs => by
  unfold c_xuse at h
  split at h
  · rename_i p ms l pages
    injection h with h; injection h with h1 h2; subst h1 h2
    exact ⟨[0, 1, 2, 3, 6], (fun _ _ => none), (fun _ _ => none), rfl, rfl, rfl, castH (p := P_xuse p ms l pages) (by kernel_rfl) (p_xuse p ms l pages)⟩
  · cases h
abbrev T_xnum : Tab := []
theorem T_xnum_ok : TOk Tryd.prog T_xnum := trivial
theorem ok_xnum : FnOk Tryd.prog 18 (CE.pu c_xnum).con := fnPuR T_xnum c_xnum L_ok T_xnum_ok mixed Tryd.func18 (by kernel_rfl) (by kernel_rfl) fun args cs r h hcs => by
  unfold c_xnum at h
  split at h
  · rename_i n
    injection h with h; injection h with h1 h2; subst h1 h2
    exact ⟨[0, 2], (fun _ _ => none), (fun _ _ => none), rfl, rfl, rfl, castH (p := P_xnum n) (by kernel_rfl) (p_xnum n (hcs _ (.head _)) (hcs _ (.tail _ (.head _))))⟩
  · cases h
abbrev T_PMatches : Tab := [(8, .pu c_xhead), (9, .pu c_zfew), (10, .pu c_zpdig), (11, .pu c_zrdig), (12, .pu c_zprint), (13, .pu c_zrprint), (14, .pu c_zsame), (15, .pu c_zright), (16, .pu c_zrright)]
theorem T_PMatches_ok : TOk Tryd.prog T_PMatches := ⟨ok_xhead, ok_zfew, ok_zpdig, ok_zrdig, ok_zprint, ok_zrprint, ok_zsame, ok_zright, ok_zrright, trivial⟩
theorem ok_PMatches : FnOk Tryd.prog 3 (CE.pu c_PMatches).con := fnPuR T_PMatches c_PMatches L_ok T_PMatches_ok mixed Tryd.func3 (by kernel_rfl) (by kernel_rfl) fun args cs r h hcs => by
  unfold c_PMatches at h
  split at h
  · rename_i p ms l f u pages a b c d e g ed ve id
    injection h with h; injection h with h1 h2; subst h1 h2
    exact ⟨[0, 1, 2, 3, 4, 5, 6, 7, 8, 10, 12, 16, 17, 18, 19, 20, 21, 22, 23, 24, 25, 31], (fun _ _ => none), (fun _ _ => none), rfl, rfl, rfl, castH (p := P_PMatches p ms l f u pages a b c d e g ed ve id) (by kernel_rfl) (p_PMatches p ms l f u pages a b c d e g ed ve id (hcs _ (.head _)) (hcs _ (.tail _ (.head _))))⟩
  · cases h
end Go.Proofs.YtiplcokpckkopaaDoor
