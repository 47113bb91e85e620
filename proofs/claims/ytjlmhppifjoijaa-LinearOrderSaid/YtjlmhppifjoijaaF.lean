/- SortStableFunc over a row of at most twenty calls. -/
import Derived.Test.YtjlmhppifjoijaaD
set_option linter.unusedVariables false
namespace Go.Proofs.Ytjlmhppifjoijaa
open Go.RowKit Go.Proofs.YtjlmhppifjoijaaW.PrintWords Go.Proofs.YtjlmhppifjoijaaW.PrintLast Go.Proofs.YtjlmhppifjoijaaW.PrintMore
set_option maxHeartbeats 400000 in
/-- Nothing to put in order. -/
theorem ins_skip (A : Option Addr) (n c : Nat) (a b : Int) (hab : b ≤ a + 1) (ha : 0 ≤ a) (hA : a ≤ 1000) (w : World) :
    Calls Try.prog 20 #[.slice A n c, .int .i64 a, .int .i64 b, .func (.func 10) #[] #[]] w fun e w' => e = .returned (.tuple #[]) ∧ w' = w := by
  have hd : decide (a + 1 < b) = false := decide_eq_false (by omega)
  have hw : IntKind.i64.wrap (a + 1) = a + 1 := IntWalk.i64_in _ (by omega)
  go_enter Try.func20, Try.ntmps20
  go_wp2_with fail
  refine wp_loop_rounds 1 ?_
  rw [rounds_succ]
  go_wp2_with fail
  go_end0
  exact ⟨rfl, rfl⟩
set_option maxHeartbeats 1000000 in
theorem stable_calls (g n c : Nat) (xs : List Cl) (w : World) (base : Nat) (ok : Nat → Prop) (hR : kCl.R 29 w base ok (.slice (some ⟨g, 0, none⟩) n c) xs) (hn : n ≤ 20) :
    Calls Try.prog 13 #[.slice (some ⟨g, 0, none⟩) n c, .int .i64 n, .func (.func 10) #[] #[]] w fun e w' => e = .returned (.tuple #[]) ∧ kCl.R 29 w' base ok (.slice (some ⟨g, 0, none⟩) n c) (insF xs n) ∧ Ch w w' (fun k => k = g) := by
  have hd2 : decide ((20 : Int) < (n : Int)) = false := decide_eq_false (by omega)
  have hd3 : decide ((40 : Int) ≤ (n : Int)) = false := decide_eq_false (by omega)
  have HR := Aside0.mk hR
  clear hR
  by_cases h20 : n = 20
  · have hd : decide ((20 : Int) ≤ (n : Int)) = true := decide_eq_true (by omega)
    subst h20
    go_enter Try.func13, Try.ntmps13
    go_wp2_with fail
    refine wp_loop_rounds 3 ?_
    rw [rounds_succ]
    go_wp2_with (go_at_call 20; go_must (refine (ins_calls g 20 c xs w base ok HR.out (by omega)).mono ?_; rintro e w1 ⟨rfl, r1, c1⟩; have R1 := Aside0.mk r1; have C1 := Aside0.mk c1; clear r1 c1))
    rw [rounds_succ]
    go_wp2_with (go_at_call 20; go_must (refine (ins_skip (some ⟨g, 0, none⟩) 20 c 20 20 (by omega) (by omega) (by omega) _).mono ?_; rintro e w2 ⟨rfl, rfl⟩))
    refine wp_loop_rounds 1 ?_
    rw [rounds_succ]
    go_wp2_with fail
    go_end0
    exact ⟨rfl, R1.out, C1.out⟩
  · have hd : decide ((20 : Int) ≤ (n : Int)) = false := decide_eq_false (by omega)
    go_enter Try.func13, Try.ntmps13
    go_wp2_with fail
    refine wp_loop_rounds 1 ?_
    rw [rounds_succ]
    go_wp2_with (go_at_call 20; go_must (refine (ins_calls g n c xs w base ok HR.out (by omega)).mono ?_; rintro e w1 ⟨rfl, r1, c1⟩; have R1 := Aside0.mk r1; have C1 := Aside0.mk c1; clear r1 c1))
    refine wp_loop_rounds 1 ?_
    rw [rounds_succ]
    go_wp2_with fail
    go_end0
    exact ⟨rfl, R1.out, C1.out⟩
end Go.Proofs.Ytjlmhppifjoijaa
