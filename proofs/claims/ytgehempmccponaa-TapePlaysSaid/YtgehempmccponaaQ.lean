/- TapePlays: for every list of acts the law answers true, and the list reads as it did. No condition. -/
import Derived.Test.YtgehempmccponaaRows
import Derived.Test.YtgehempmccponaaN
import Derived.Test.YtgehempmccponaaOp
import Derived.ProofKit
import Derived.OpenShut
import Derived.ShutString
import Derived.ChangeOld
import Derived.SizedLaws
set_option linter.unusedVariables false
namespace Go.Proofs.Ytgehempmccponaa
open Go.RowKit Go.Proofs.YtgehempmccponaaW.PrintWords Go.Proofs.YtgehempmccponaaW.PrintLast Go.Proofs.YtgehempmccponaaW.PrintMore
open Go.ChangeShapes Go.WideShapes Go.ChangeAt
def ActQ (x : Actn) : Prop := (Lit.int .i64 x.what).wf = true ∧ (Lit.int .i64 x.n).wf = true ∧ ∀ b ∈ x.b, (Lit.int .u8 b).wf = true
theorem opens34 : Opens Try.prog 34 kAct ActQ :=
  opens_iso (opens_struct Try.underlying34 (by kernel_rfl)
    (opensF_cons rfl (by kernel_rfl) (opens_int Try.underlying3)
      (opensF_cons rfl (by kernel_rfl) (opens_int Try.underlying3)
        (opensF_one rfl (by kernel_rfl) (opens_slice Try.underlying27 (by kernel_rfl) (opens_int Try.underlying5) 5))))) _ (fun y => ⟨y.1, y.2.1, y.2.2⟩) (fun _ => rfl)
theorem opens22 : Opens Try.prog 22 (Kd.slice 34 kAct) (fun xs => ∀ x ∈ xs, ActQ x) := opens_slice Try.underlying22 (by kernel_rfl) opens34 34
theorem own : ownKnob Try.prog.godebug = none := by kernel_rfl
theorem laidOut : laidOutB Try.prog = true := by kernel_rfl
theorem plays_law (A : Option Addr) (n c : Nat) (xs : List Actn) (w : World) (hA : kAct.C w A n xs) (hok : ∀ x ∈ xs, ActOk x) :
    Calls Try.prog 3 #[.slice A n c] w fun e w' => e = .returned (.bool true) ∧ Below w.heap.size w w' := by
  by_cases hn : n ≤ 100
  · exact plays_calls A n c xs w hA hok hn
  · exact long_calls A n c w (by omega)
set_option maxRecDepth 100000 in
theorem lifted (os : Os) (started : os.Started) (H : Type) (enc : TypeId × Value → H) :
    ReturnsInHanded {} Try.checked os 3 .any (Rows.tapePlaysSpec.pre6 enc Try.prog Try.f3 Rows.tapePlaysRow.domain false) (Rows.tapePlaysSpec.post enc Try.prog Try.f3 false true false false) := by
  refine returnsInHanded_of_change_sized (C := Try.checked) own started (by kernel_rfl) Try.func3
    (ChangeSpec.witness6 (enc := enc) (C := Try.checked) false ⟨#[], #[.slice none 0 0], []⟩ 8 (by kernel_rfl) (by kernel_rfl) (by kernel_rfl) (by kernel_rfl)) ?_
  intro W base args ds gs before hval0 hW hcnd hsz0 _
  have hval : ∀ (j : Nat) t v, Try.f3.params[j]? = some t → args[j]? = some v → Value.okWide Try.prog W .any base t v := hval0
  have hW' := hW
  obtain ⟨p, q, hA0, hV, rfl, hfz, hnd⟩ := hW
  have hA : DataW.TrodAll enc Try.prog W 0 (fun _ => true) true Try.f3.params.toList args.toList ds p := hA0
  rw [Try.params3] at hA hval
  obtain ⟨v0, vs0, d0, ds0, p0, q0, hargs, rfl, rfl, h0, r0⟩ := trodAll_cons hA
  obtain ⟨rfl, rfl, rfl⟩ := trodAll_nil r0
  obtain rfl : args = #[v0] := by cases args; simp_all
  obtain ⟨rfl, rfl⟩ := trodVars_none hV
  obtain ⟨a0, len0, cap0, rfl⟩ := okWide_slice Try.underlying22 (hval 0 22 v0 rfl rfl)
  have k0 := h0
  have lt0 : ∀ x ∈ p0, x.block < W.heap.size := by obtain ⟨m, hm⟩ := k0; exact DataW.trod_lt m _ _ _ hm
  obtain ⟨m0, hm0⟩ := k0
  obtain ⟨xs, ⟨A, c, hcs, hl, hC⟩, hok⟩ := opens22.op hm0
  obtain ⟨rfl, rfl, rfl⟩ : a0 = A ∧ len0 = xs.length ∧ cap0 = c := by simpa [Value.cells] using hcs
  clear hA0 hval0 hsz0
  refine (plays_law a0 xs.length cap0 xs W hC (fun x hx => ?_)).mono fun e W' ⟨he, bel⟩ => ?_
  · have h1 := (hok x hx).2.1
    simp only [Lit.wf, Bool.and_eq_true, decide_eq_true_eq] at h1
    exact h1
  · subst he
    exact ⟨_, rfl, _, _, _, [], _, [], hW', trodAll_mk1 (shut_bool Try.underlying4 _), (trodAll_cons_mk (Below.trod laidOut (by kernel_rfl) (of_decide_eq_true (by kernel_rfl)) h0 bel lt0) trodAll_mk0), rfl, bel.frame _, fun h => by cases h⟩
theorem over : Rows.tapePlaysRow.holds Try.pinned (OpenSpec.ofChange Rows.tapePlaysSpec) :=
  OpenClaim.holds_of_wide 3 Try.f3 rfl rfl rfl rfl rfl rfl rfl ⟨rfl, rfl, rfl, rfl, rfl⟩ rfl rfl rfl rfl rfl (by kernel_rfl) Try.func3 (by kernel_rfl)
    (of_decide_eq_true (by kernel_rfl)) (by unfold Func.isWrapper; first | (rw [if_pos (by decide +kernel)]; kernel_rfl) | (rw [if_neg (by decide +kernel)]; exact ⟨rfl, rfl⟩))
    (fun os started H enc _ => lifted os started H enc)
theorem tapePlays_holds : Rows.TapePlaysSaid := over
#print axioms tapePlays_holds
end Go.Proofs.Ytgehempmccponaa
