/- RecReads: what any bytes are. -/
import Derived.Test.YtcpekifbbjnjmaaP1
set_option linter.unusedVariables false
namespace Go.Proofs.Ytcpekifbbjnjmaa
open Go.RowKit Go.Proofs.YtcpekifbbjnjmaaW.PrintWords Go.Proofs.YtcpekifbbjnjmaaW.PrintLast Go.Proofs.YtcpekifbbjnjmaaW.PrintMore Go.Proofs.Ytcpekifbbjnjmaa.PRecBack
/-- A law's answer: true, and nothing old is changed. -/
def Law (w : World) (e : Ending) (w' : World) : Prop := e = .returned (.bool true) ∧ Below w.heap.size w w'
theorem ans (w : World) : Calls Try.prog 9 #[] w fun e w' => e = .returned (.bool true) ∧ Aside0 (Below w.heap.size w w') := answers_calls w
set_option maxHeartbeats 4000000 in
set_option maxRecDepth 100000 in
theorem reads_calls (A : Option Addr) (n c : Nat) (bs : List Int) (w : World) (hB : BytesAt w A n c bs) (hb : Byt bs) : Calls Try.prog 4 #[.slice A n c] w (Law w) := by
  by_cases hn : n ≤ 9000
  · by_cases hd : ∃ r, Dec bs r
    · obtain ⟨r, hd⟩ := hd
      have KD : Aside0 (∀ w2, Below w.heap.size w w2 → Calls Try.prog 13 #[.slice A n c] w2 fun e w' => ∃ v4 v5 v6 : Sl, e = .returned (.tuple #[.agg #[.int .i64 r.kind, .int .i64 r.id, .int .i64 r.size, .string r.key, .slice v4.A v4.n v4.c, .slice v5.A v5.n v5.c, .slice v6.A v6.n v6.c], .int .i64 0]) ∧
          Aside0 (Below w2.heap.size w2 w') ∧ Aside0 (RecAt w' r v4 v5 v6)) := ⟨fun w2 h => decode_yes A n c r bs w2 hd hB.n hB.l (Kd.C_below hB.c h) hb⟩
      have KE : Aside0 (∀ (v4 v5 v6 : Sl) (w2 : World), RecAt w2 r v4 v5 v6 → Calls Try.prog 11 #[.agg #[.int .i64 r.kind, .int .i64 r.id, .int .i64 r.size, .string r.key, .slice v4.A v4.n v4.c, .slice v5.A v5.n v5.c, .slice v6.A v6.n v6.c]] w2 (Enc1 r w2)) :=
        ⟨fun v4 v5 v6 w2 h => (rencode_at r v4 v5 v6 w2 h (by have := hd.2.2.1.2; omega)).mono fun e w' h => enc_yes hd.2.2.1 h⟩
      have KS : Aside0 (∀ (A2 : Option Addr) (m c2 : Nat) (w2 : World), Below w.heap.size w w2 → BytesAt w2 A2 m c2 (tb (tRec r)) → Calls Try.prog 12 #[.slice A n c, .slice A2 m c2] w2 (Says (bs = tb (tRec r)) w2)) := ⟨fun A2 m c2 w2 h h2 => same_any A A2 n m c c2 bs _ w2 hB.n h2.n hB.l h2.l (Kd.C_below hB.c h) h2.c⟩
      have HE : Aside0 (bs = tb (tRec r)) := ⟨hd.2.2.2.symm⟩
      clear hd hB hb
      go_enter Try.func4, Try.ntmps4
      go_wp2_with (first | (go_at_call 13; go_must (refine (KD.out _ (Below.refl _ _)).mono ?_; rintro e w2 ⟨v4, v5, v6, rfl, hb2, hR⟩; have HRA := Aside0.mk (fun o => hR.out.below (below_alloc (Below.refl _ _) o)); have H2 := Aside0.mk (fun o => below_alloc hb2.out o))) | (go_at_call 11; go_must (refine (KE.out v4 v5 v6 _ (HRA.out _)).mono ?_; rintro e w3 ⟨A2, m, c2, rfl, hb3, hB3⟩; have H3 := Aside0.mk ((H2.out _).trans (hb3.out.mono (H2.out _).size)))) | (go_at_call 9; go_must (refine (ans _).mono ?_; rintro e w4 ⟨rfl, hb4⟩; have H4 := Aside0.mk (H3.out.trans (hb4.out.mono H3.out.size)); have HB4 := Aside0.mk (hB3.out.below hb4.out))) | (go_at_call 12; go_must (refine (KS.out A2 m c2 _ H4.out HB4.out).mono ?_; rintro e w5 ⟨b, rfl, hb, hb5⟩; obtain rfl : b = true := hb.out.2 HE.out)))
      go_ret
      exact ⟨rfl, H4.out.trans (hb5.out.mono H4.out.size)⟩
    · have KD : Aside0 (∀ w2, Below w.heap.size w w2 → Calls Try.prog 13 #[.slice A n c] w2 fun e w' => ∃ v4 v5 v6 : Sl, e = .returned (.tuple #[.agg #[.int .i64 0, .int .i64 0, .int .i64 0, .string ⟨#[]⟩, .slice v4.A v4.n v4.c, .slice v5.A v5.n v5.c, .slice v6.A v6.n v6.c], .int .i64 2]) ∧
          Aside0 (Below w2.heap.size w2 w') ∧ Aside0 (RecAt w' rc0 v4 v5 v6)) := ⟨fun w2 h => decode_no A n c bs w2 (fun r hr => hd ⟨r, hr⟩) hB.n hB.l (Kd.C_below hB.c h) hb⟩
      have KS : Aside0 (∀ (v4 v5 v6 : Sl) (w2 : World), RecAt w2 rc0 v4 v5 v6 → Calls Try.prog 14 #[.agg #[.int .i64 0, .int .i64 0, .int .i64 0, .string ⟨#[]⟩, .slice v4.A v4.n v4.c, .slice v5.A v5.n v5.c, .slice v6.A v6.n v6.c], .agg #[.int .i64 0, .int .i64 0, .int .i64 0, .string ⟨#[]⟩, .slice none 0 0, .slice none 0 0, .slice none 0 0]] w2 (Says (rc0 = rc0) w2)) := ⟨fun v4 v5 v6 w2 h => rsame_at rc0 rc0 v4 v5 v6 sl0 sl0 sl0 w2 h (rec_nil _)⟩
      clear hd hB hb
      go_enter Try.func4, Try.ntmps4
      go_wp2_with (first | (go_at_call 13; go_must (refine (KD.out _ (Below.refl _ _)).mono ?_; rintro e w2 ⟨v4, v5, v6, rfl, hb2, hR⟩; have HRA := Aside0.mk (fun o => hR.out.below (below_alloc (Below.refl _ _) o)); have H2 := Aside0.mk (fun o => below_alloc hb2.out o); have HX := Aside0.mk (blk_new w2 (.cells #[.int .i64 0, .int .i64 0, .int .i64 0, .string ⟨#[]⟩, .slice v4.A v4.n v4.c, .slice v5.A v5.n v5.c, .slice v6.A v6.n v6.c] 26)))) | (go_at_call 9; go_must (refine (ans _).mono ?_; rintro e w4 ⟨rfl, hb4⟩; have HB4 := Aside0.mk ((HRA.out _).below hb4.out); have H4 := Aside0.mk ((H2.out _).trans (hb4.out.mono (H2.out _).size)); have X4 := (hb4.out.block _ (blk_lt HX.out)).trans HX.out; have x0 := blk_cell X4 0; have x1 := blk_cell X4 1; have x2 := blk_cell X4 2; have x3 := blk_cell X4 3; have x4 := blk_cell X4 4; have x5 := blk_cell X4 5; have x6 := blk_cell X4 6; clear X4)) | (go_at_call 14; go_must (refine (KS.out v4 v5 v6 _ HB4.out).mono ?_; rintro e w5 ⟨b, rfl, hb, hb5⟩; obtain rfl : b = true := (by have h9 := hb.out.2; first | exact h9 rfl | exact h9 trivial))))
      go_ret
      exact ⟨rfl, H4.out.trans (hb5.out.mono H4.out.size)⟩
  · go_enter Try.func4, Try.ntmps4
    go_wp2_with (go_at_call 9; go_must (refine (ans _).mono ?_; rintro e w4 ⟨rfl, hb4⟩))
    go_ret
    exact ⟨rfl, hb4.out⟩
end Go.Proofs.Ytcpekifbbjnjmaa
