/- RecSame: which records are the same. -/
import Derived.Test.YtcpekifbbjnjmaaR2
import Derived.Deep.RegionHeld3
set_option linter.unusedVariables false
namespace Go.Proofs.Ytcpekifbbjnjmaa
open Go.RowKit Go.Proofs.YtcpekifbbjnjmaaW.PrintWords Go.Proofs.YtcpekifbbjnjmaaW.PrintLast Go.Proofs.YtcpekifbbjnjmaaW.PrintMore Go.Proofs.Ytcpekifbbjnjmaa.PRecBack
/-- The two records in blocks of the law's own. -/
structure Two (w : World) (x y : Rc) (v4 v5 v6 u4 u5 u6 : Sl) (W : World) : Prop where
  b : Below w.heap.size w W
  x : W.heap[w.heap.size]? = some (.cells #[.int .i64 x.kind, .int .i64 x.id, .int .i64 x.size, .string x.key, .slice v4.A v4.n v4.c, .slice v5.A v5.n v5.c, .slice v6.A v6.n v6.c] 26 (0, 0))
  y : W.heap[w.heap.size + 1]? = some (.cells #[.int .i64 y.kind, .int .i64 y.id, .int .i64 y.size, .string y.key, .slice u4.A u4.n u4.c, .slice u5.A u5.n u5.c, .slice u6.A u6.n u6.c] 26 (0, 0))
theorem Two.later {w W W' : World} {x y : Rc} {v4 v5 v6 u4 u5 u6 : Sl} (h : Two w x y v4 v5 v6 u4 u5 u6 W) (hb : Below W.heap.size W W') : Two w x y v4 v5 v6 u4 u5 u6 W' :=
  ⟨h.b.trans (hb.mono h.b.size), (hb.block _ (blk_lt h.x)).trans h.x, (hb.block _ (blk_lt h.y)).trans h.y⟩
theorem Two.drew {w W : World} {x y : Rc} {v4 v5 v6 u4 u5 u6 : Sl} (h : Two w x y v4 v5 v6 u4 u5 u6 W) : Two w x y v4 v5 v6 u4 u5 u6 W.drew := ⟨below_drew h.b, h.x, h.y⟩
theorem Two.cells {w W : World} {x y : Rc} {v4 v5 v6 u4 u5 u6 : Sl} (h : Two w x y v4 v5 v6 u4 u5 u6 W) : (W.cell? ⟨w.heap.size, 0, none⟩ = some (.int .i64 x.kind) ∧ W.cell? ⟨w.heap.size, 1, none⟩ = some (.int .i64 x.id) ∧ W.cell? ⟨w.heap.size, 2, none⟩ = some (.int .i64 x.size) ∧ W.cell? ⟨w.heap.size, 3, none⟩ = some (.string x.key) ∧ W.cell? ⟨w.heap.size, 4, none⟩ = some (.slice v4.A v4.n v4.c) ∧ W.cell? ⟨w.heap.size, 5, none⟩ = some (.slice v5.A v5.n v5.c) ∧ W.cell? ⟨w.heap.size, 6, none⟩ = some (.slice v6.A v6.n v6.c)) ∧ W.cell? ⟨w.heap.size + 1, 0, none⟩ = some (.int .i64 y.kind) ∧ W.cell? ⟨w.heap.size + 1, 1, none⟩ = some (.int .i64 y.id) ∧ W.cell? ⟨w.heap.size + 1, 2, none⟩ = some (.int .i64 y.size) ∧ W.cell? ⟨w.heap.size + 1, 3, none⟩ = some (.string y.key) ∧ W.cell? ⟨w.heap.size + 1, 4, none⟩ = some (.slice u4.A u4.n u4.c) ∧ W.cell? ⟨w.heap.size + 1, 5, none⟩ = some (.slice u5.A u5.n u5.c) ∧ W.cell? ⟨w.heap.size + 1, 6, none⟩ = some (.slice u6.A u6.n u6.c) :=
  ⟨rcells' h.x, rcells' h.y⟩
set_option maxHeartbeats 8000000 in
set_option maxRecDepth 100000 in
theorem recsame_calls (x y : Rc) (v4 v5 v6 u4 u5 u6 : Sl) (w : World) (h : RecAt w x v4 v5 v6) (h' : RecAt w y u4 u5 u6) (hm : Mod x) (hm' : Mod y) :
    Calls Try.prog 6 #[.agg #[.int .i64 x.kind, .int .i64 x.id, .int .i64 x.size, .string x.key, .slice v4.A v4.n v4.c, .slice v5.A v5.n v5.c, .slice v6.A v6.n v6.c], .agg #[.int .i64 y.kind, .int .i64 y.id, .int .i64 y.size, .string y.key, .slice u4.A u4.n u4.c, .slice u5.A u5.n u5.c, .slice u6.A u6.n u6.c]] w (Law w) := by
  obtain ⟨b1, hs1⟩ := small_at2 x hm
  obtain ⟨b2, hs2⟩ := small_at2 y hm'
  have P0 : Aside0 (Two w x y v4 v5 v6 u4 u5 u6 ((w.alloc (.cells #[.int .i64 x.kind, .int .i64 x.id, .int .i64 x.size, .string x.key, .slice v4.A v4.n v4.c, .slice v5.A v5.n v5.c, .slice v6.A v6.n v6.c] 26)).alloc (.cells #[.int .i64 y.kind, .int .i64 y.id, .int .i64 y.size, .string y.key, .slice u4.A u4.n u4.c, .slice u5.A u5.n u5.c, .slice u6.A u6.n u6.c] 26))) := ⟨⟨((Below.refl _ _).alloc (Nat.le_refl _) _).alloc (by simp) _, by rw [Below.heap_alloc _ _ _ (by simp)]; exact blk_new _ _, by have := blk_new (w.alloc (.cells #[.int .i64 x.kind, .int .i64 x.id, .int .i64 x.size, .string x.key, .slice v4.A v4.n v4.c, .slice v5.A v5.n v5.c, .slice v6.A v6.n v6.c] 26)) (.cells #[.int .i64 y.kind, .int .i64 y.id, .int .i64 y.size, .string y.key, .slice u4.A u4.n u4.c, .slice u5.A u5.n u5.c, .slice u6.A u6.n u6.c] 26); simpa using this⟩⟩
  have K1 : Aside0 (∀ W, Two w x y v4 v5 v6 u4 u5 u6 W → Calls Try.prog 8 #[.agg #[.int .i64 x.kind, .int .i64 x.id, .int .i64 x.size, .string x.key, .slice v4.A v4.n v4.c, .slice v5.A v5.n v5.c, .slice v6.A v6.n v6.c]] W fun e w' => e = .returned (.bool b1) ∧ Aside0 (Two w x y v4 v5 v6 u4 u5 u6 w')) := ⟨fun W hW => (hs1 v4 v5 v6 W (h.below hW.b)).mono fun e w' h => ⟨h.1, ⟨hW.later h.2.out⟩⟩⟩
  have K2 : Aside0 (∀ W, Two w x y v4 v5 v6 u4 u5 u6 W → Calls Try.prog 8 #[.agg #[.int .i64 y.kind, .int .i64 y.id, .int .i64 y.size, .string y.key, .slice u4.A u4.n u4.c, .slice u5.A u5.n u5.c, .slice u6.A u6.n u6.c]] W fun e w' => e = .returned (.bool b2) ∧ Aside0 (Two w x y v4 v5 v6 u4 u5 u6 w')) := ⟨fun W hW => (hs2 u4 u5 u6 W (h'.below hW.b)).mono fun e w' h => ⟨h.1, ⟨hW.later h.2.out⟩⟩⟩
  have K9 : Aside0 (∀ W, Two w x y v4 v5 v6 u4 u5 u6 W → Calls Try.prog 9 #[] W fun e w' => e = .returned (.bool true) ∧ Aside0 (Two w x y v4 v5 v6 u4 u5 u6 w')) := ⟨fun W hW => (ans W).mono fun e w' h => ⟨h.1, ⟨hW.later h.2.out⟩⟩⟩
  obtain ⟨b, hb⟩ : ∃ b : Bool, b = true ↔ x = y := by
    by_cases h : x = y
    · exact ⟨true, by simp [h]⟩
    · exact ⟨false, by simp [h]⟩
  have beq : ∀ b' : Bool, (b' = true ↔ x = y) → b' = b := fun b' h => by
    cases b' <;> cases b <;> simp_all
  have K14 : Aside0 (∀ W, Two w x y v4 v5 v6 u4 u5 u6 W → Calls Try.prog 14 #[.agg #[.int .i64 x.kind, .int .i64 x.id, .int .i64 x.size, .string x.key, .slice v4.A v4.n v4.c, .slice v5.A v5.n v5.c, .slice v6.A v6.n v6.c], .agg #[.int .i64 y.kind, .int .i64 y.id, .int .i64 y.size, .string y.key, .slice u4.A u4.n u4.c, .slice u5.A u5.n u5.c, .slice u6.A u6.n u6.c]] W fun e w' => e = .returned (.bool b) ∧ Aside0 (Two w x y v4 v5 v6 u4 u5 u6 w')) := ⟨fun W hW => (rsame_at x y v4 v5 v6 u4 u5 u6 W (h.below hW.b) (h'.below hW.b)).mono fun e w' ⟨b', he, h1, h2⟩ => ⟨by rw [he, beq b' h1.out], ⟨hW.later h2.out⟩⟩⟩
  have K15 : Aside0 (∀ W, Two w x y v4 v5 v6 u4 u5 u6 W → Calls Try.prog 15 #[.agg #[.int .i64 x.kind, .int .i64 x.id, .int .i64 x.size, .string x.key, .slice v4.A v4.n v4.c, .slice v5.A v5.n v5.c, .slice v6.A v6.n v6.c], .agg #[.int .i64 y.kind, .int .i64 y.id, .int .i64 y.size, .string y.key, .slice u4.A u4.n u4.c, .slice u5.A u5.n u5.c, .slice u6.A u6.n u6.c]] W fun e w' => e = .returned (.bool b) ∧ Aside0 (Two w x y v4 v5 v6 u4 u5 u6 w')) := ⟨fun W hW => (psame_at x y v4 v5 v6 u4 u5 u6 W (h.below hW.b) (h'.below hW.b)).mono fun e w' ⟨b', he, h1, h2⟩ => ⟨by rw [he, beq b' h1.out], ⟨hW.later h2.out⟩⟩⟩
  have K16 : Aside0 (∀ W, Two w x y v4 v5 v6 u4 u5 u6 W → Calls Try.prog 15 #[.agg #[.int .i64 x.kind, .int .i64 x.id, .int .i64 x.size, .string x.key, .slice v4.A v4.n v4.c, .slice v5.A v5.n v5.c, .slice v6.A v6.n v6.c], .agg #[.int .i64 x.kind, .int .i64 x.id, .int .i64 x.size, .string x.key, .slice v4.A v4.n v4.c, .slice v5.A v5.n v5.c, .slice v6.A v6.n v6.c]] W fun e w' => e = .returned (.bool true) ∧ Aside0 (Two w x y v4 v5 v6 u4 u5 u6 w')) := ⟨fun W hW => (psame_at x x v4 v5 v6 v4 v5 v6 W (h.below hW.b) (h.below hW.b)).mono fun e w' ⟨b', he, h1, h2⟩ => ⟨by rw [he, h1.out.2 rfl], ⟨hW.later h2.out⟩⟩⟩
  clear h h' hm hm' hs1 hs2 beq hb
  cases b1 with
  | false =>
    go_enter Try.func6, Try.ntmps6
    go_wp2_with (first | (go_at_call 8; go_must (refine (K1.out _ P0.out).mono ?_; rintro e w2 ⟨rfl, hb2⟩)) | (go_at_call 9; go_must (refine (K9.out _ hb2.out).mono ?_; rintro e w4 ⟨rfl, hb4⟩)))
    go_ret
    exact ⟨rfl, hb4.out.b⟩
  | true =>
    cases b2 with
    | false =>
      go_enter Try.func6, Try.ntmps6
      go_wp2_with (first | (go_at_call 8; (with_reducible refine (K1.out _ P0.out).mono ?_); rintro e w2 ⟨rfl, hb2⟩; obtain ⟨⟨q0, q1, q2, q3, q4, q5, q6⟩, y0, y1, y2, y3, y4, y5, y6⟩ := hb2.out.cells; clear P0) | (go_at_call 8; (with_reducible refine (K2.out _ hb2.out).mono ?_); rintro e w3 ⟨rfl, hb3⟩) | (go_at_call 9; go_must (refine (K9.out _ hb3.out).mono ?_; rintro e w4 ⟨rfl, hb4⟩)))
      go_ret
      exact ⟨rfl, hb4.out.b⟩
    | true =>
      go_enter Try.func6, Try.ntmps6
      go_wp2_with (first | (go_at_call 8; (with_reducible refine (K1.out _ P0.out).mono ?_); rintro e w2 ⟨rfl, hb2⟩; obtain ⟨⟨q0, q1, q2, q3, q4, q5, q6⟩, y0, y1, y2, y3, y4, y5, y6⟩ := hb2.out.cells; clear P0) | (go_at_call 8; (with_reducible refine (K2.out _ hb2.out).mono ?_); rintro e w3 ⟨rfl, hb3⟩; obtain ⟨⟨q0, q1, q2, q3, q4, q5, q6⟩, y0, y1, y2, y3, y4, y5, y6⟩ := hb3.out.cells; clear hb2))
      cases b
      all_goals
        go_region_held3 (fun w' => (w'.cell? ⟨w.heap.size, 0, none⟩ = some (.int .i64 x.kind) ∧ w'.cell? ⟨w.heap.size, 1, none⟩ = some (.int .i64 x.id) ∧ w'.cell? ⟨w.heap.size, 2, none⟩ = some (.int .i64 x.size) ∧ w'.cell? ⟨w.heap.size, 3, none⟩ = some (.string x.key) ∧ w'.cell? ⟨w.heap.size, 4, none⟩ = some (.slice v4.A v4.n v4.c) ∧ w'.cell? ⟨w.heap.size, 5, none⟩ = some (.slice v5.A v5.n v5.c) ∧ w'.cell? ⟨w.heap.size, 6, none⟩ = some (.slice v6.A v6.n v6.c)) ∧ w'.cell? ⟨w.heap.size + 1, 0, none⟩ = some (.int .i64 y.kind) ∧ w'.cell? ⟨w.heap.size + 1, 1, none⟩ = some (.int .i64 y.id) ∧ w'.cell? ⟨w.heap.size + 1, 2, none⟩ = some (.int .i64 y.size) ∧ w'.cell? ⟨w.heap.size + 1, 3, none⟩ = some (.string y.key) ∧ w'.cell? ⟨w.heap.size + 1, 4, none⟩ = some (.slice u4.A u4.n u4.c) ∧ w'.cell? ⟨w.heap.size + 1, 5, none⟩ = some (.slice u5.A u5.n u5.c) ∧ w'.cell? ⟨w.heap.size + 1, 6, none⟩ = some (.slice u6.A u6.n u6.c)) (first | go_keep | exact KP.out) (first | (go_at_call 9; go_must (refine (K9.out _ ?c1).mono ?_; (case c1 => first | exact hb3.out | exact hb3.out.drew); rintro e w4 ⟨rfl, hb4⟩; have KP := Aside0.mk hb4.out.cells)) | (go_at_call 14; go_must (refine (K14.out _ hb4.out).mono ?_; rintro e w5 ⟨rfl, hb5⟩; replace hb4 := hb5; replace KP := Aside0.mk hb5.out.cells)) | (go_at_call 15; (with_reducible refine (K15.out _ hb4.out).mono ?_); rintro e w5 ⟨rfl, hb5⟩; replace hb4 := hb5; replace KP := Aside0.mk hb5.out.cells) | (go_at_call 15; (with_reducible refine (K16.out _ hb4.out).mono ?_); rintro e w5 ⟨rfl, hb5⟩; replace hb4 := hb5; replace KP := Aside0.mk hb5.out.cells))
        go_wp2_with fail
        go_ret
        exact ⟨rfl, hb4.out.b⟩
end Go.Proofs.Ytcpekifbbjnjmaa
