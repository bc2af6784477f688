/- The law that all functions return what the reference returns: its function returns true. -/
import Derived.Test.YtommmlhllifonaaWb
namespace Go.Proofs.Ytommmlhllifonaa
open Go.Sy Go.RatLaw

def cMatches : PCon
  | [.agg [.d (.lit (.int .i64 _)), .d (.lit (.int .i64 _))], .agg [.d (.lit (.int .i64 _)), .d (.lit (.int .i64 _))], .one (.d (.lit (.int .i64 _))), .one (.d (.lit (.int .i64 _))), .one (.d (.sl (τ := .tp (.ti .i64) (.ti .i64)) d0 sz _ enc))] =>
    some ([isQL d0 sz enc], .t (B true))
  | _ => none
abbrev s3 (m : Int × Int × Int) : Bool := m.1 == m.1 && m.2.1 == m.2.1
def P8 (a b c d n m : Int) (l : List (Int × Int)) : Prop :=
  (l.length : Int) ≤ 9223372036854775807 → (decide ((l.length : Int) > 40) = true → (l.length : Int) ≤ 9223372036854775807) → ((decide ((l.length : Int) > 40) && decide ((l.length : Int) ≤ 20000)) = true → true = true) ∧
    ((decide ((l.length : Int) > 40) && decide ((l.length : Int) ≤ 20000)) = false → isQL (0, 0) 2 Qt.enc ∧ isQL (0, 0) 2 Qt.enc ∧
      (true && vld a b == vld a b && s3 (make n m) && (make n m).2.2 == (make n m).2.2 && s3 (addR a b c d) && (addR a b c d).2.2 == (addR a b c d).2.2 && s3 (subR a b c d) && (subR a b c d).2.2 == (subR a b c d).2.2 &&
        s3 (mulR a b c d) && (mulR a b c d).2.2 == (mulR a b c d).2.2 && s3 (divR a b c d) && (divR a b c d).2.2 == (divR a b c d).2.2 && s3 (sumR l) && (sumR l).2.2 == (sumR l).2.2 &&
        (compareR a b c d).1 == (compareR a b c d).1 && (compareR a b c d).2 == (compareR a b c d).2 && (floorR a b).1 == (floorR a b).1 && (floorR a b).2 == (floorR a b).2) = true)
theorem p8 (a b c d n m : Int) (l : List (Int × Int)) : P8 a b c d n m l := fun _ _ => ⟨fun _ => rfl, fun _ => ⟨⟨rfl, rfl, rfl⟩, ⟨rfl, rfl, rfl⟩, by simp⟩⟩
theorem ok8 : FnOk Try.prog 8 (CE.pu cMatches).con := fnPu R5 cMatches L_ok R5_ok mixed Try.func8 (by kernel_rfl) (by kernel_rfl) fun args cs r h hcs => by
  unfold cMatches at h
  split at h
  · rename_i a b c d n m d0 sz l enc
    injection h with h; injection h with h1 h2; subst h1 h2
    obtain ⟨e1, e2, e3⟩ := hcs (isQL d0 sz enc) (by simp)
    subst e1 e2 e3
    exact ⟨[0, 1, 2, 3, 4, 5, 6, 10, 11, 12, 13, 14, 15, 16, 17, 26], fun _ => none, rfl, rfl, rfl, castH (p := P8 a b c d n m l) (by kernel_rfl) (p8 a b c d n m l)⟩
  · cases h
end Go.Proofs.Ytommmlhllifonaa
