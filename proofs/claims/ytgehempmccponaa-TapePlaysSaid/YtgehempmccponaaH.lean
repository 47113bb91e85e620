/- The reference's Same and All. -/
import Derived.Test.YtgehempmccponaaG
set_option linter.unusedVariables false
namespace Go.Proofs.Ytgehempmccponaa
open Go.RowKit Go.Proofs.YtgehempmccponaaW.PrintWords Go.Proofs.YtgehempmccponaaW.PrintLast Go.Proofs.YtgehempmccponaaW.PrintMore
theorem C_at {w : World} {A : Option Addr} {n : Nat} {xs : List Int} (h : B8.C w A n xs) (k : Nat) (hk : k < n) : ∃ ad, A = some ad ∧ w.cell? (ad.add k) = some (.int .u8 (xs.getD k 0)) := by
  obtain ⟨ad, c, e, _, hK, hc⟩ := Kd.C_get h (0 : Int) (k : Int) (by omega) (by omega)
  obtain rfl : c = [_] := hK
  refine ⟨ad, e, ?_⟩
  have := hc 0 _ rfl
  simpa [Kd.int, Kd.scalar] using this
set_option maxHeartbeats 1000000 in
theorem same_calls (A B : Option Addr) (n m c d : Nat) (xs ys : List Int) (w : World) (hA : B8.C w A n xs) (hB : B8.C w B m ys) (hn : n ≤ 100000000) (hm : m ≤ 100000000) :
    Calls Try.prog 15 #[.slice A n c, .slice B m d] w fun e w' => e = .returned (.bool (decide (xs = ys))) ∧ Ch w w' (fun _ => False) := by
  have hxl : xs.length = n := hA.1
  have hyl : ys.length = m := hB.1
  have HX := Aside0.mk hxl
  have HY := Aside0.mk hyl
  have HA := Aside0.mk hA
  have HB := Aside0.mk hB
  clear hA hB hxl hyl
  by_cases hnm : n = m
  · have e1 : ((n : Int) != (m : Int)) = false := by simp [hnm]
    have HNM := Aside0.mk hnm
    clear hnm
    go_enter Try.func15, Try.ntmps15
    go_wp2_with fail
    go_loopw [5] (fun v w' => ∃ k : Nat, v = .int .i64 k ∧ Aside0 (k ≤ n) ∧ Aside0 (∀ j, j < k → xs.getD j 0 = ys.getD j 0) ∧ Aside0 (Ch w w' (fun _ => False))) (fun v _ => n - (intOf v).toNat)
    case atStart => exact ⟨0, rfl, ⟨Nat.zero_le _⟩, ⟨fun j hj => by omega⟩, ⟨Ch.refl _ _⟩⟩
    case round =>
      obtain ⟨k, rfl, HK, HE, HC⟩ := hrel
      by_cases hlt : k < n
      · obtain ⟨ad, rfl, hc1⟩ := C_at (Kd.C_below HA.out (HC.out.quiet (fun _ h => h.elim))) k hlt
        obtain ⟨bd, rfl, hc2⟩ := C_at (Kd.C_below HB.out (HC.out.quiet (fun _ h => h.elim))) k (by have := HNM.out; omega)
        have hlt2 : k < m := by have := HNM.out; omega
        obtain ⟨x, hx⟩ : ∃ x, x = xs.getD k 0 := ⟨_, rfl⟩
        obtain ⟨y, hy⟩ : ∃ y, y = ys.getD k 0 := ⟨_, rfl⟩
        rw [← hx] at hc1
        rw [← hy] at hc2
        have HX1 := Aside0.mk hx
        have HY1 := Aside0.mk hy
        clear hx hy
        by_cases hq : x = y
        · have hq1 : (x != y) = false := by simp [hq]
          have HQ := Aside0.mk hq
          clear hq
          go_wp2_with fail
          go_quiet (fail)
          go_wp2_with fail
          go_roundw
          case rel =>
            refine ⟨k + 1, by go_num, ⟨hlt⟩, ⟨fun j hj => ?_⟩, ⟨HC.out.drewN _⟩⟩
            by_cases hjk : j = k
            · subst hjk
              rw [← HX1.out, ← HY1.out, HQ.out]
            · exact HE.out j (by omega)
          case measure => simp [intOf]; omega
        · have hq1 : (x != y) = true := by simpa using hq
          have HQ := Aside0.mk hq
          clear hq
          go_wp2_with fail
          go_quiet (fail)
          go_wp2_with fail
          go_ret
          refine ⟨?_, HC.out.drewN _⟩
          have : ¬ xs = ys := fun e => HQ.out (by rw [HX1.out, HY1.out, e])
          rw [decide_eq_false this]
          rfl
      · have hk : k = n := by have := HK.out; omega
        have HKN := Aside0.mk hk
        clear hk
        go_wp2_with fail
        go_ret
        refine ⟨?_, HC.out⟩
        have : xs = ys := by
          apply List.ext_getElem (by rw [HX.out, HY.out, HNM.out])
          intro j h1 h2
          have := HE.out j (by rw [HKN.out, ← HX.out]; exact h1)
          simpa [List.getD_eq_getElem?_getD, h1, h2] using this
        rw [decide_eq_true this]
        rfl
  · have e1 : ((n : Int) != (m : Int)) = true := by simp; omega
    have HNM := Aside0.mk hnm
    clear hnm
    go_enter Try.func15, Try.ntmps15
    go_wp2_with fail
    go_ret
    refine ⟨?_, Ch.refl _ _⟩
    have : ¬ xs = ys := fun e => HNM.out (by rw [← HX.out, ← HY.out, e])
    rw [decide_eq_false this]
    rfl
end Go.Proofs.Ytgehempmccponaa
