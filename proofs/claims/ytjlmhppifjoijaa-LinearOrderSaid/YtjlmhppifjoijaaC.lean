/- The closure of Check: which of two calls was first. -/
import Derived.Test.YtjlmhppifjoijaaB
set_option linter.unusedVariables false
namespace Go.Proofs.Ytjlmhppifjoijaa
open Go.RowKit Go.Proofs.YtjlmhppifjoijaaW.PrintWords Go.Proofs.YtjlmhppifjoijaaW.PrintLast Go.Proofs.YtjlmhppifjoijaaW.PrintMore
def cmpI (a b : Int) : Int := if a < b then -1 else if b < a then 1 else 0
set_option maxHeartbeats 400000 in
theorem compare_calls (a b : Int) (w : World) : Calls Try.prog 11 #[.int .i64 a, .int .i64 b] w fun e w' => e = .returned (.int .i64 (cmpI a b)) ∧ w = w' := by
  by_cases h1 : a < b
  · go_enter Try.func11, Try.ntmps11
    go_wp2
    go_ret
    exact ⟨by simp [cmpI, h1], rfl⟩
  · by_cases h2 : b < a
    · go_enter Try.func11, Try.ntmps11
      go_wp2
      go_ret
      exact ⟨by simp [cmpI, h2]; omega, rfl⟩
    · go_enter Try.func11, Try.ntmps11
      go_wp2
      go_ret
      exact ⟨by simp [cmpI]; omega, rfl⟩
set_option maxHeartbeats 400000 in
theorem before_calls (a b : Cl) (w : World) : Calls Try.prog 10 #[.agg a.cells.toArray, .agg b.cells.toArray] w fun e w' => e = .returned (.int .i64 (cmpI a.at_ b.at_)) ∧ Ch w w' (fun _ => False) := by
  simp only [Cl.cells]
  go_enter Try.func10, Try.ntmps10
  go_wp2_with (go_at_call 11; go_must (refine (compare_calls _ _ _).mono ?_; rintro e w1 ⟨rfl, rfl⟩))
  go_ret
  exact ⟨rfl, ((Ch.refl _ _).alloc _).alloc _⟩
end Go.Proofs.Ytjlmhppifjoijaa
