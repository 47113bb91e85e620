/- RecBack: any record's bytes are read again. -/
import Derived.Test.YtcpekifbbjnjmaaR1
set_option linter.unusedVariables false
namespace Go.Proofs.Ytcpekifbbjnjmaa
open Go.RowKit Go.Proofs.YtcpekifbbjnjmaaW.PrintWords Go.Proofs.YtcpekifbbjnjmaaW.PrintLast Go.Proofs.YtcpekifbbjnjmaaW.PrintMore Go.Proofs.Ytcpekifbbjnjmaa.PRecBack
theorem small_at2 (r : Rc) (hm : Mod r) : ∃ b : Bool, ∀ (v4 v5 v6 : Sl) (w : World), RecAt w r v4 v5 v6 →
    Calls Try.prog 8 #[.agg #[.int .i64 r.kind, .int .i64 r.id, .int .i64 r.size, .string r.key, .slice v4.A v4.n v4.c, .slice v5.A v5.n v5.c, .slice v6.A v6.n v6.c]] w fun e w' => e = .returned (.bool b) ∧ Aside0 (Below w.heap.size w w') := by
  obtain ⟨k, v, hv⟩ := small_f r hm
  refine ⟨v, fun v4 v5 v6 w h => ?_⟩
  obtain ⟨A4, n4, c4⟩ := v4
  obtain ⟨A5, n5, c5⟩ := v5
  obtain ⟨A6, n6, c6⟩ := v6
  obtain ⟨e4, l4, h4, e5, l5, h5, e6, l6, h6⟩ := h
  simp only at e4 e5 e6 h4 h5 h6 l4 l5 l6 ⊢
  subst e4 e5 e6
  refine (flittingref09_Small.calls k _ _ _ _ A4 c4 _ A5 c5 _ A6 c6 _ v w h4 l4 h5 l5 h6 l6 hv).mono ?_
  rintro e w' ⟨rfl, hb⟩
  exact ⟨rfl, ⟨hb⟩⟩
/-- The cells of a record in a block of its own, its slices' values free. -/
theorem rcells' {w : World} {g : Nat} {r : Rc} {v4 v5 v6 : Sl} (h : w.heap[g]? = some (.cells #[.int .i64 r.kind, .int .i64 r.id, .int .i64 r.size, .string r.key, .slice v4.A v4.n v4.c, .slice v5.A v5.n v5.c, .slice v6.A v6.n v6.c] 26 (0, 0))) :
    w.cell? ⟨g, 0, none⟩ = some (.int .i64 r.kind) ∧ w.cell? ⟨g, 1, none⟩ = some (.int .i64 r.id) ∧ w.cell? ⟨g, 2, none⟩ = some (.int .i64 r.size) ∧ w.cell? ⟨g, 3, none⟩ = some (.string r.key) ∧
      w.cell? ⟨g, 4, none⟩ = some (.slice v4.A v4.n v4.c) ∧ w.cell? ⟨g, 5, none⟩ = some (.slice v5.A v5.n v5.c) ∧ w.cell? ⟨g, 6, none⟩ = some (.slice v6.A v6.n v6.c) :=
  ⟨blk_cell h 0, blk_cell h 1, blk_cell h 2, blk_cell h 3, blk_cell h 4, blk_cell h 5, blk_cell h 6⟩
set_option maxHeartbeats 8000000 in
set_option maxRecDepth 100000 in
theorem back_calls (r : Rc) (v4 v5 v6 : Sl) (w : World) (h : RecAt w r v4 v5 v6) (hm : Mod r) (hl : (tb (tRec r)).length ≤ 140737488355328) :
    Calls Try.prog 3 #[.agg #[.int .i64 r.kind, .int .i64 r.id, .int .i64 r.size, .string r.key, .slice v4.A v4.n v4.c, .slice v5.A v5.n v5.c, .slice v6.A v6.n v6.c]] w (Law w) := by
  obtain ⟨b, hsm⟩ := small_at2 r hm
  have K8 : Aside0 (∀ (w2 : World), Below w.heap.size w w2 → Calls Try.prog 8 #[.agg #[.int .i64 r.kind, .int .i64 r.id, .int .i64 r.size, .string r.key, .slice v4.A v4.n v4.c, .slice v5.A v5.n v5.c, .slice v6.A v6.n v6.c]] w2 fun e w' => e = .returned (.bool b) ∧ Aside0 (Below w2.heap.size w2 w')) := ⟨fun w2 hb => hsm v4 v5 v6 w2 (h.below hb)⟩
  have hB0 := below_alloc (Below.refl w.heap.size w) (.cells #[.int .i64 r.kind, .int .i64 r.id, .int .i64 r.size, .string r.key, .slice v4.A v4.n v4.c, .slice v5.A v5.n v5.c, .slice v6.A v6.n v6.c] 26)
  have B0 := Aside0.mk hB0
  have X0 := Aside0.mk (blk_new w (.cells #[.int .i64 r.kind, .int .i64 r.id, .int .i64 r.size, .string r.key, .slice v4.A v4.n v4.c, .slice v5.A v5.n v5.c, .slice v6.A v6.n v6.c] 26))
  clear hsm hB0
  cases b with
  | false =>
    clear h hm hl
    go_enter Try.func3, Try.ntmps3
    go_wp2_with (first | (go_at_call 8; go_must (refine (K8.out _ B0.out).mono ?_; rintro e w2 ⟨rfl, hb2⟩; have B2 := Aside0.mk (B0.out.trans (hb2.out.mono B0.out.size)))) | (go_at_call 9; go_must (refine (ans _).mono ?_; rintro e w4 ⟨rfl, hb4⟩)))
    go_ret
    exact ⟨rfl, B2.out.trans (hb4.out.mono B2.out.size)⟩
  | true =>
    have thr : True := trivial
    by_cases hok : OkRec r
    · have K10 : Aside0 (∀ (w2 : World), Below w.heap.size w w2 → Calls Try.prog 10 #[.agg #[.int .i64 r.kind, .int .i64 r.id, .int .i64 r.size, .string r.key, .slice v4.A v4.n v4.c, .slice v5.A v5.n v5.c, .slice v6.A v6.n v6.c]] w2 (Enc1 r w2)) := ⟨fun w2 hb => (encode_at r v4 v5 v6 w2 (h.below hb) hl).mono fun e w' h => enc_yes hok h⟩
      have K11 : Aside0 (∀ (w2 : World), Below w.heap.size w w2 → Calls Try.prog 11 #[.agg #[.int .i64 r.kind, .int .i64 r.id, .int .i64 r.size, .string r.key, .slice v4.A v4.n v4.c, .slice v5.A v5.n v5.c, .slice v6.A v6.n v6.c]] w2 (Enc1 r w2)) := ⟨fun w2 hb => (rencode_at r v4 v5 v6 w2 (h.below hb) hl).mono fun e w' h => enc_yes hok h⟩
      have K12 : Aside0 (∀ (A B : Option Addr) (m c n d : Nat) (w2 : World), BytesAt w2 A m c (tb (tRec r)) → BytesAt w2 B n d (tb (tRec r)) → Calls Try.prog 12 #[.slice A m c, .slice B n d] w2 (Says (tb (tRec r) = tb (tRec r)) w2)) := ⟨fun A B m c n d w2 h1 h2 => same_any A B m n c d _ _ w2 h1.n h2.n h1.l h2.l h1.c h2.c⟩
      have K13 : Aside0 (∀ (A : Option Addr) (m c : Nat) (w2 : World), BytesAt w2 A m c (tb (tRec r)) → Calls Try.prog 13 #[.slice A m c] w2 fun e w' => ∃ u4 u5 u6 : Sl, e = .returned (.tuple #[.agg #[.int .i64 r.kind, .int .i64 r.id, .int .i64 r.size, .string r.key, .slice u4.A u4.n u4.c, .slice u5.A u5.n u5.c, .slice u6.A u6.n u6.c], .int .i64 0]) ∧
          Aside0 (Below w2.heap.size w2 w') ∧ Aside0 (RecAt w' r u4 u5 u6)) := ⟨fun A m c w2 h => decode_yes A m c r _ w2 (dec_enc r hok) h.n h.l h.c (byt_rec r)⟩
      have K14 : Aside0 (∀ (u4 u5 u6 : Sl) (w2 : World), Below w.heap.size w w2 → RecAt w2 r u4 u5 u6 → Calls Try.prog 14 #[.agg #[.int .i64 r.kind, .int .i64 r.id, .int .i64 r.size, .string r.key, .slice u4.A u4.n u4.c, .slice u5.A u5.n u5.c, .slice u6.A u6.n u6.c], .agg #[.int .i64 r.kind, .int .i64 r.id, .int .i64 r.size, .string r.key, .slice v4.A v4.n v4.c, .slice v5.A v5.n v5.c, .slice v6.A v6.n v6.c]] w2 (Says (r = r) w2)) := ⟨fun u4 u5 u6 w2 hb hu => rsame_at r r u4 u5 u6 v4 v5 v6 w2 hu (h.below hb)⟩
      clear h hm hl hok
      go_enter Try.func3, Try.ntmps3
      go_wp2_with (first | (go_at_call 8; go_must (refine (K8.out _ B0.out).mono ?_; rintro e w2 ⟨rfl, hb2⟩; replace X0 := Aside0.mk ((hb2.out.block _ (blk_lt X0.out)).trans X0.out); replace B0 := Aside0.mk (B0.out.trans (hb2.out.mono B0.out.size)); obtain ⟨q0, q1, q2, q3, q4, q5, q6⟩ := rcells' X0.out)) | (go_at_call 10; go_must (refine (K10.out _ B0.out).mono ?_; rintro e w3 ⟨A1, m1, c1, rfl, hb2, hB1⟩; replace X0 := Aside0.mk ((hb2.out.block _ (blk_lt X0.out)).trans X0.out); replace B0 := Aside0.mk (B0.out.trans (hb2.out.mono B0.out.size)); obtain ⟨q0, q1, q2, q3, q4, q5, q6⟩ := rcells' X0.out)) | (go_at_call 11; go_must (refine (K11.out _ B0.out).mono ?_; rintro e w4 ⟨A2, m2, c2, rfl, hb2, hB2⟩; replace X0 := Aside0.mk ((hb2.out.block _ (blk_lt X0.out)).trans X0.out); replace B0 := Aside0.mk (B0.out.trans (hb2.out.mono B0.out.size)); replace hB1 := Aside0.mk (hB1.out.below hb2.out); obtain ⟨q0, q1, q2, q3, q4, q5, q6⟩ := rcells' X0.out)) | (go_at_call 12; go_must (refine (K12.out A1 A2 m1 c1 m2 c2 _ hB1.out hB2.out).mono ?_; rintro e w5 ⟨b, rfl, hb, hb2⟩; obtain rfl : b = true := (by have h9 := hb.out.2; first | exact h9 rfl | exact h9 trivial); replace X0 := Aside0.mk ((hb2.out.block _ (blk_lt X0.out)).trans X0.out); replace B0 := Aside0.mk (B0.out.trans (hb2.out.mono B0.out.size)); replace hB1 := Aside0.mk (hB1.out.below hb2.out); obtain ⟨q0, q1, q2, q3, q4, q5, q6⟩ := rcells' X0.out)) | (go_at_call 13; go_must (refine (K13.out A1 m1 c1 _ hB1.out).mono ?_; rintro e w6 ⟨u4, u5, u6, rfl, hb2, hRA⟩; replace X0 := Aside0.mk ((hb2.out.block _ (blk_lt X0.out)).trans X0.out); replace B0 := Aside0.mk (B0.out.trans (hb2.out.mono B0.out.size)); have Y0 := Aside0.mk (blk_new w6 (.cells #[.int .i64 r.kind, .int .i64 r.id, .int .i64 r.size, .string r.key, .slice u4.A u4.n u4.c, .slice u5.A u5.n u5.c, .slice u6.A u6.n u6.c] 26)); have B7 := Aside0.mk (fun o => below_alloc B0.out o); have R7 := Aside0.mk (fun o => hRA.out.below (below_alloc (Below.refl _ _) o)); have X7 := Aside0.mk (fun o => (Below.heap_alloc w6 o _ (blk_lt X0.out)).trans X0.out))) | (go_at_call 9; go_must (refine (ans _).mono ?_; rintro e w8 ⟨rfl, hb4⟩; have X8 := Aside0.mk ((hb4.out.block _ (blk_lt (X7.out _))).trans (X7.out _)); have Y8 := Aside0.mk ((hb4.out.block _ (blk_lt Y0.out)).trans Y0.out); have B8' := Aside0.mk ((B7.out _).trans (hb4.out.mono (B7.out _).size)); have R8 := Aside0.mk ((R7.out _).below hb4.out); obtain ⟨q0, q1, q2, q3, q4, q5, q6⟩ := rcells' X8.out; obtain ⟨y0, y1, y2, y3, y4, y5, y6⟩ := rcells' Y8.out)) | (go_at_call 14; go_must (refine (K14.out u4 u5 u6 _ B8'.out R8.out).mono ?_; rintro e w9 ⟨b, rfl, hb, hb5⟩; obtain rfl : b = true := (by have h9 := hb.out.2; first | exact h9 rfl | exact h9 trivial))))
      go_ret
      exact ⟨rfl, B8'.out.trans (hb5.out.mono B8'.out.size)⟩
    · have hcode : (if tbad (tRec r) = true then (2 : Int) else 4) = 2 ∨ (if tbad (tRec r) = true then (2 : Int) else 4) = 4 := by split <;> simp
      obtain ⟨code, hc⟩ : ∃ code, code = (if tbad (tRec r) = true then (2 : Int) else 4) := ⟨_, rfl⟩
      rw [← hc] at hcode
      have K10 : Aside0 (∀ (w2 : World), Below w.heap.size w w2 → Calls Try.prog 10 #[.agg #[.int .i64 r.kind, .int .i64 r.id, .int .i64 r.size, .string r.key, .slice v4.A v4.n v4.c, .slice v5.A v5.n v5.c, .slice v6.A v6.n v6.c]] w2 (Enc0 code w2)) := ⟨fun w2 hb => (encode_at r v4 v5 v6 w2 (h.below hb) hl).mono fun e w' h => by rw [hc]; exact enc_no hok h⟩
      have K11 : Aside0 (∀ (w2 : World), Below w.heap.size w w2 → Calls Try.prog 11 #[.agg #[.int .i64 r.kind, .int .i64 r.id, .int .i64 r.size, .string r.key, .slice v4.A v4.n v4.c, .slice v5.A v5.n v5.c, .slice v6.A v6.n v6.c]] w2 (Enc0 code w2)) := ⟨fun w2 hb => (rencode_at r v4 v5 v6 w2 (h.below hb) hl).mono fun e w' h => by rw [hc]; exact enc_no hok h⟩
      have K12 : Aside0 (∀ (w2 : World), Calls Try.prog 12 #[.slice none 0 0, .slice none 0 0] w2 (Says (([] : List Int) = []) w2)) := ⟨fun w2 => same_any none none 0 0 0 0 [] [] w2 rfl rfl (Nat.le_refl _) (Nat.le_refl _) (Kd.C_nil _ _) (Kd.C_nil _ _)⟩
      clear h hm hl hok hc
      rcases hcode with rfl | rfl
      all_goals
        go_enter Try.func3, Try.ntmps3
        go_wp2_with (first | (go_at_call 8; go_must (refine (K8.out _ B0.out).mono ?_; rintro e w2 ⟨rfl, hb2⟩; replace X0 := Aside0.mk ((hb2.out.block _ (blk_lt X0.out)).trans X0.out); replace B0 := Aside0.mk (B0.out.trans (hb2.out.mono B0.out.size)); obtain ⟨q0, q1, q2, q3, q4, q5, q6⟩ := rcells' X0.out)) | (go_at_call 10; go_must (refine (K10.out _ B0.out).mono ?_; rintro e w3 ⟨rfl, hb2⟩; replace X0 := Aside0.mk ((hb2.out.block _ (blk_lt X0.out)).trans X0.out); replace B0 := Aside0.mk (B0.out.trans (hb2.out.mono B0.out.size)); obtain ⟨q0, q1, q2, q3, q4, q5, q6⟩ := rcells' X0.out)) | (go_at_call 11; go_must (refine (K11.out _ B0.out).mono ?_; rintro e w4 ⟨rfl, hb2⟩; replace B0 := Aside0.mk (B0.out.trans (hb2.out.mono B0.out.size)))) | (go_at_call 12; go_must (refine (K12.out _).mono ?_; rintro e w5 ⟨b, rfl, hb, hb2⟩; obtain rfl : b = true := (by have h9 := hb.out.2; first | exact h9 rfl | exact h9 trivial); replace B0 := Aside0.mk (B0.out.trans (hb2.out.mono B0.out.size)))) | (go_at_call 9; go_must (refine (ans _).mono ?_; rintro e w8 ⟨rfl, hb4⟩; have B8' := Aside0.mk (B0.out.trans (hb4.out.mono B0.out.size)))))
        go_ret
        exact ⟨rfl, B8'.out⟩
end Go.Proofs.Ytcpekifbbjnjmaa
