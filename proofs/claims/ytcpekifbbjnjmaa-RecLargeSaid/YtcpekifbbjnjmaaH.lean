/- The reference's writer: stripes; the reference's Encode. -/
import Derived.Test.YtcpekifbbjnjmaaG
set_option linter.unusedVariables false
namespace Go.Proofs.Ytcpekifbbjnjmaa
open Go.RowKit Go.Proofs.YtcpekifbbjnjmaaW.PrintWords Go.Proofs.YtcpekifbbjnjmaaW.PrintLast Go.Proofs.YtcpekifbbjnjmaaW.PrintMore Go.Proofs.Ytcpekifbbjnjmaa.PRecBack
theorem RW.cell {w0 W : World} {g : Nat} {B : List Int} {b : Bool} (h : RW w0 W g B b) : W.cell? ⟨g, 1, none⟩ = some (.bool b) := by
  obtain ⟨bs, ⟨_, _, u, hm, _⟩, _, _⟩ := h
  exact blk_cell hm 1
set_option maxHeartbeats 4000000 in
theorem rstripes_calls (w0 W : World) (g : Nat) (B : List Int) (b : Bool) (A : Option Addr) (c : Nat) (l : List S41) (hA : k41.C w0 A l.length l) (h : RW w0 W g B b) (hl : B.length + (tb (tStripes l)).length ≤ 140737488355328) :
    Calls Try.prog 23 #[.pointer (some ⟨g, 0, none⟩), .slice A l.length c] W (RWrote w0 g (B ++ tb (tStripes l)) (b || tbad (tStripes l)) W) := by
  have ht : tStripes l = (.num l.length 1 255 :: l.flatMap tStripe) := rfl
  rw [ht] at hl ⊢
  have hl1 : B.length + 1 ≤ 140737488355328 := by
    rw [tb_cons, List.length_append, num_len] at hl
    omega
  have hmax : l.length ≤ 9223372036854775807 := hA.2.1
  have hm255 : (255 : Int) < 18446744073709551616 := by decide
  have S0 := Aside0.mk h
  have HL := Aside0.mk hl
  have HL1 := Aside0.mk hl1
  have HA := Aside0.mk hA
  have H255 := Aside0.mk hm255
  clear h hl hl1 hA ht hm255
  go_enter Try.func23, Try.ntmps23
  go_wp2_with (go_at_call 21; go_must (refine (rnum1_calls w0 _ g _ _ _ _ S0.out H255.out HL1.out).mono ?_; rintro e w1 ⟨rfl, h1, h2⟩; have S1 := Aside0.mk h1; have T1 := Aside0.mk h2; clear h1 h2 S0))
  go_loopw [4] (fun v w' => ∃ k : Nat, v = .int .i64 k ∧ Aside0 (k ≤ l.length) ∧ Aside0 (RW w0 w' g (B ++ tb (pre (.num l.length 1 255) tStripe l k)) (b || tbad (pre (.num l.length 1 255) tStripe l k))) ∧ Aside0 (TC w0.heap.size W w')) (fun v _ => l.length - (intOf v).toNat)
  case atStart => exact ⟨0, rfl, ⟨Nat.zero_le _⟩, ⟨by rw [pre_zero, tb_cons, tb_nil, tbad_cons, tbad_nil, List.append_nil, Bool.or_false]; exact S1.out⟩, T1⟩
  case round =>
    clear S1 T1
    obtain ⟨k, rfl, HK, S0, T0⟩ := hrel
    by_cases hlt : k < l.length
    · obtain ⟨b2, hb2⟩ : ∃ b2, b2 = (b || tbad (pre (.num l.length 1 255) tStripe l k)) := ⟨_, rfl⟩
      have HB2 := Aside0.mk hb2
      have S1 : Aside0 (RW w0 wr g (B ++ tb (pre (.num l.length 1 255) tStripe l k)) b2) := ⟨by rw [hb2]; exact S0.out⟩
      clear S0 hb2
      have hcell := S1.out.cell
      obtain ⟨ad, A2, c2, rfl, he0, he1, he2, hC⟩ := at41b HA.out (Below.refl _ _) k hlt
      obtain ⟨x, hx⟩ : ∃ x, x = l[k] := ⟨_, rfl⟩
      have PL := Aside0.mk (pre_len (hd := .num l.length 1 255) (enc := tStripe) hlt)
      rw [← hx] at he0 he1 he2 hC PL
      have hc0 := cell_later S1.out.bel he0
      have hc1 := cell_later S1.out.bel he1
      have hc2 := cell_later S1.out.bel he2
      have E0 := Aside0.mk he0
      have E1 := Aside0.mk he1
      have E2 := Aside0.mk he2
      clear he0 he1 he2
      have HX := Aside0.mk hx
      have HCC := Aside0.mk hC
      clear hx hC
      cases b2 with
      | true =>
        go_wp2_with fail
        go_end0
        refine ⟨rfl, ?_, T0.out⟩
        have e1 : (b || tbad (.num l.length 1 255 :: l.flatMap tStripe)) = true := by
          have h1 := HB2.out
          cases b
          · exact pre_bad k h1.symm
          · rfl
        rw [e1]
        exact S1.out.stop (by rw [List.length_append, List.length_append]; have := pre_le (hd := .num l.length 1 255) (enc := tStripe) (l := l) k; omega)
      | false =>
        have hroom : (B ++ tb (pre (.num l.length 1 255) tStripe l k)).length + 8 + (tb (tInts x.f2)).length ≤ 140737488355328 := by
          have h1 := HL.out
          have h2 := PL.out
          have h3 : (tb (tStripe x)).length = 8 + (tb (tInts x.f2)).length := by
            unfold tStripe
            rw [tb_cons, tb_cons, List.length_append, List.length_append, word_len, word_len]
            omega
          rw [h3] at h2
          rw [List.length_append]
          omega
        have HR := Aside0.mk hroom
        clear hroom
        have i0 : (0 : Int) ≤ (k : Int) := by omega
        have i1 : (k : Int) < (l.length : Int) := by omega
        go_wp2_with (first | (go_at_call 21; go_must (refine (rword_calls w0 _ g _ _ _ S1.out ?n3).mono ?_; (case n3 => have := HR.out; simp only [List.length_append, word_len] at this ⊢; omega); rintro e w2 ⟨rfl, h1, h2⟩; replace S1 := Aside0.mk h1; replace T0 := Aside0.mk (T0.out.then_ h2); have hd0 := cell_later h1.bel E0.out; have hd1 := cell_later h1.bel E1.out; have hd2 := cell_later h1.bel E2.out; clear h1 h2)) | (go_at_call 24; go_must (refine (rints_calls w0 _ g _ _ A2 _ x.f2 HCC.out S1.out ?n4).mono ?_; (case n4 => have := HR.out; simp only [List.length_append, word_len] at this ⊢; omega); rintro e w2 ⟨rfl, h1, h2⟩; replace S1 := Aside0.mk h1; replace T0 := Aside0.mk (T0.out.then_ h2); clear h1 h2)))
        go_roundw
        case rel =>
          refine ⟨k + 1, by go_num, ⟨hlt⟩, ⟨?_⟩, T0⟩
          have := S1.out
          rw [HB2.out] at this
          rw [pre_succ hlt, ← HX.out, tb_append, tbad_append]
          rw [show tb (tStripe x) = (word x.f0).b ++ ((word x.f1).b ++ tb (tInts x.f2)) from rfl, show tbad (tStripe x) = ((word x.f0).bad || ((word x.f1).bad || tbad (tInts x.f2))) from rfl]
          simpa only [List.append_assoc, Bool.or_assoc] using this
        case measure => simp [intOf]; omega
    · have hk : k = l.length := by have := HK.out; omega
      have HKN := Aside0.mk hk
      clear hk
      go_wp2_with fail
      go_end0
      have := S0.out
      rw [pre_full HKN.out] at this
      exact ⟨rfl, this, T0.out⟩
theorem rw_new (w0 : World) : RW w0 (w0.alloc (.cells #[.slice none 0 0, .bool false] 55)) w0.heap.size [] false := ⟨[], wr_new 55 w0, fun _ => rfl, Nat.le_refl _⟩
theorem object_split (x : S44) : tb (tObject x) = tb (tKey x.f0) ++ ((word x.f1).b ++ ((word x.f2).b ++ tb (tStripes x.f3))) ∧ tbad (tObject x) = (tbad (tKey x.f0) || ((word x.f1).bad || ((word x.f2).bad || tbad (tStripes x.f3)))) := by
  unfold tObject
  rw [tb_append, tbad_append]
  exact ⟨rfl, rfl⟩
set_option maxHeartbeats 8000000 in
set_option maxRecDepth 100000 in
theorem rencode_calls (r : Rc) (A4 A5 A6 : Option Addr) (c4 c5 c6 : Nat) (w : World) (h4 : k41.C w A4 r.stripes.length r.stripes) (h5 : k44.C w A5 r.objects.length r.objects) (h6 : (Kd.int .i64).C w A6 r.drives.length r.drives) (hl : (tb (tRec r)).length ≤ 140737488355328) :
    Calls Try.prog 11 #[.agg #[.int .i64 r.kind, .int .i64 r.id, .int .i64 r.size, .string r.key, .slice A4 r.stripes.length c4, .slice A5 r.objects.length c5, .slice A6 r.drives.length c6]] w (EncTo r w) := by
  have hmax : r.objects.length ≤ 9223372036854775807 := h5.2.1
  rw [rec_len] at hl
  have HL := Aside0.mk hl
  obtain ⟨w0, hw0⟩ : ∃ w0, w0 = w.alloc (.cells #[.int .i64 r.kind, .int .i64 r.id, .int .i64 r.size, .string r.key, .slice A4 r.stripes.length c4, .slice A5 r.objects.length c5, .slice A6 r.drives.length c6] 26) := ⟨_, rfl⟩
  have HW := Aside0.mk hw0
  have hsz : w0.heap.size = w.heap.size + 1 := by rw [hw0]; simp
  have HZ := Aside0.mk hsz
  have H4 := Aside0.mk (show k41.C w0 A4 r.stripes.length r.stripes by rw [hw0]; exact Kd.C_alloc h4 _)
  have H5 := Aside0.mk (show k44.C w0 A5 r.objects.length r.objects by rw [hw0]; exact Kd.C_alloc h5 _)
  have H6 := Aside0.mk (show (Kd.int .i64).C w0 A6 r.drives.length r.drives by rw [hw0]; exact Kd.C_alloc h6 _)
  have B0 : Aside0 (w0.heap[w.heap.size]? = some (.cells #[.int .i64 r.kind, .int .i64 r.id, .int .i64 r.size, .string r.key, .slice A4 r.stripes.length c4, .slice A5 r.objects.length c5, .slice A6 r.drives.length c6] 26 (0, 0))) := ⟨by rw [hw0]; exact blk_new _ _⟩
  have S1 : Aside0 (RW w0 ((w.alloc (.cells #[.int .i64 r.kind, .int .i64 r.id, .int .i64 r.size, .string r.key, .slice A4 r.stripes.length c4, .slice A5 r.objects.length c5, .slice A6 r.drives.length c6] 26)).alloc (.cells #[.slice none 0 0, .bool false] 55)) (w.heap.size + 1) [] false) := ⟨by have := rw_new w0; rw [hsz] at this; rw [← hw0]; exact this⟩
  have B1 : Aside0 (((w.alloc (.cells #[.int .i64 r.kind, .int .i64 r.id, .int .i64 r.size, .string r.key, .slice A4 r.stripes.length c4, .slice A5 r.objects.length c5, .slice A6 r.drives.length c6] 26)).alloc (.cells #[.slice none 0 0, .bool false] 55)).heap[w.heap.size]? = some (.cells #[.int .i64 r.kind, .int .i64 r.id, .int .i64 r.size, .string r.key, .slice A4 r.stripes.length c4, .slice A5 r.objects.length c5, .slice A6 r.drives.length c6] 26 (0, 0))) := ⟨by rw [← hw0, Below.heap_alloc _ _ _ (blk_lt B0.out)]; exact B0.out⟩
  clear h4 h5 h6 hl hw0 hsz B0
  by_cases hk : r.kind < 1
  · have hkd : decide (r.kind < 1) = true := decide_eq_true hk
    have hbad : Aside0 (tbad (tRec r) = true) := ⟨by unfold tRec; rw [tbad_cons, tbad_cons]; simp [Tok.bad, hk]⟩
    go_enter Try.func11, Try.ntmps11
    go_wp2_with fail
    go_ret2
    refine ⟨none, 0, 0, 2, rfl, ((Below.refl _ w).alloc (Nat.le_refl _) _).alloc (by simp) _, .inr ⟨fun h => ?_, ?_, rfl, rfl, rfl⟩⟩
    · have := h.1
      rw [hbad.out] at this
      cases this
    · rw [hbad.out]; rfl
  have hkd : decide (r.kind < 1) = false := decide_eq_false hk
  have HE : Aside0 (tbad (hdT r) = Tok.bad (.num r.kind 1 5)) := ⟨by unfold hdT; rw [tbad_cons, tbad_cons, tbad_nil]; simp only [Tok.bad, hkd]; simp⟩
  have hm5 : (5 : Int) < 18446744073709551616 := by decide
  have hm65 : (65535 : Int) < 18446744073709551616 := by decide
  have M5 := Aside0.mk hm5
  have M65 := Aside0.mk hm65
  clear hk hm5 hm65
  go_enter Try.func11, Try.ntmps11
  go_wp2_with (first | (go_at_call 21; (with_reducible refine (rnum1_calls w0 _ _ _ _ _ 5 S1.out M5.out ?n1).mono ?_); (case n1 => decide); rintro e w3 ⟨rfl, h1, h2⟩; replace S1 := Aside0.mk h1; replace B1 := Aside0.mk (h2.blk B1.out nt26); obtain ⟨q0, q1, q2, q3, q4, q5, q6⟩ := rcells B1.out; clear h1 h2 M5) | (go_at_call 21; (with_reducible refine (rword_calls w0 _ _ _ _ _ S1.out ?n2).mono ?_); (case n2 => have := HL.out; simp only [List.length_append, List.length_nil, num_len, word_len] at ⊢; omega); rintro e w3 ⟨rfl, h1, h2⟩; replace S1 := Aside0.mk h1; replace B1 := Aside0.mk (h2.blk B1.out nt26); obtain ⟨q0, q1, q2, q3, q4, q5, q6⟩ := rcells B1.out; clear h1 h2) | (go_at_call 22; (with_reducible refine (rkey_calls w0 _ _ _ _ r.key S1.out ?n2).mono ?_); (case n2 => have := HL.out; simp only [List.length_append, List.length_nil, word_len, num_len] at this ⊢; omega); rintro e w3 ⟨rfl, h1, h2⟩; replace S1 := Aside0.mk h1; replace B1 := Aside0.mk (h2.blk B1.out nt26); obtain ⟨q0, q1, q2, q3, q4, q5, q6⟩ := rcells B1.out; clear h1 h2) | (go_at_call 23; (with_reducible refine (rstripes_calls w0 _ _ _ _ A4 _ r.stripes H4.out S1.out ?n2).mono ?_); (case n2 => have := HL.out; simp only [List.length_append, List.length_nil, word_len, num_len] at this ⊢; omega); rintro e w3 ⟨rfl, h1, h2⟩; replace S1 := Aside0.mk h1; replace B1 := Aside0.mk (h2.blk B1.out nt26); obtain ⟨q0, q1, q2, q3, q4, q5, q6⟩ := rcells B1.out; clear h1 h2) | (go_at_call 21; (with_reducible refine (rnum2_calls w0 _ _ _ _ _ 65535 S1.out M65.out ?n2).mono ?_); (case n2 => have := HL.out; have ho := obj_len r.objects; simp only [List.length_append, List.length_nil, word_len, num_len] at ⊢; omega); rintro e w3 ⟨rfl, h1, h2⟩; replace S1 := Aside0.mk h1; replace B1 := Aside0.mk (h2.blk B1.out nt26); obtain ⟨q0, q1, q2, q3, q4, q5, q6⟩ := rcells B1.out; clear h1 h2))
  have S3 : Aside0 (RW w0 w3 (w.heap.size + 1) (tb (preT r ++ pre (.num r.objects.length 2 65535) tObject r.objects 0)) (tbad (preT r ++ pre (.num r.objects.length 2 65535) tObject r.objects 0))) := ⟨by
      have := S1.out
      unfold preT
      simp only [pre_zero, tb_append, tb_cons, tb_nil, tbad_append, tbad_cons, tbad_nil, HE.out, hdT_b, List.append_assoc, List.nil_append, List.append_nil, Bool.or_assoc, Bool.or_false, Bool.false_or] at this ⊢
      exact this⟩
  clear S1
  go_loopw [5, 6] (fun v _ w' => ∃ k : Nat, v = .int .i64 k ∧ Aside0 (k ≤ r.objects.length) ∧ Aside0 (RW w0 w' (w.heap.size + 1) (tb (preT r ++ pre (.num r.objects.length 2 65535) tObject r.objects k)) (tbad (preT r ++ pre (.num r.objects.length 2 65535) tObject r.objects k))) ∧ Aside0 (w'.heap[w.heap.size]? = some (.cells #[.int .i64 r.kind, .int .i64 r.id, .int .i64 r.size, .string r.key, .slice A4 r.stripes.length c4, .slice A5 r.objects.length c5, .slice A6 r.drives.length c6] 26 (0, 0)))) (fun v _ _ => r.objects.length - (intOf v).toNat)
  case atStart => exact ⟨0, rfl, ⟨Nat.zero_le _⟩, S3, B1⟩
  case round =>
    clear S3 B1 q0 q1 q2 q3 q4 q5 q6
    obtain ⟨k, rfl, HK, S0, B0⟩ := hrel
    by_cases hlt : k < r.objects.length
    · obtain ⟨b2, hb2⟩ : ∃ b2, b2 = tbad (preT r ++ pre (.num r.objects.length 2 65535) tObject r.objects k) := ⟨_, rfl⟩
      have HB2 := Aside0.mk hb2
      have S1 : Aside0 (RW w0 wr (w.heap.size + 1) (tb (preT r ++ pre (.num r.objects.length 2 65535) tObject r.objects k)) b2) := ⟨by rw [hb2]; exact S0.out⟩
      clear S0 hb2
      have hcell := S1.out.cell
      obtain ⟨q0, q1, q2, q3, q4, q5, q6⟩ := rcells B0.out
      cases b2 with
      | true =>
        go_wp2_with (go_at_call 24; go_must (refine (rints_calls w0 _ _ _ _ A6 _ r.drives H6.out S1.out ?n2).mono ?_; (case n2 => have h1 := HL.out; have h2 := obj_len r.objects; have h3 := pre_le (hd := .num r.objects.length 2 65535) (enc := tObject) (l := r.objects) k; rw [tb_cons, List.length_append, num_len] at h3; rw [tb_append, List.length_append, preT_len]; omega); rintro e w4 ⟨rfl, h1, h2⟩; rw [Bool.true_or] at h1; have d1 := h1.cell; have HBe := Aside0.mk h1.bel; clear h1 h2))
        go_ret2
        have hbad : tbad (tRec r) = true := by
          have h1 := HB2.out
          rw [tbad_append] at h1
          rw [tRec_eq, tbad_append, tbad_append]
          rcases hp : tbad (preT r) with _ | _
          · rw [hp, Bool.false_or] at h1
            rw [pre_bad k h1.symm]
            rfl
          · rfl
        refine ⟨none, 0, 0, 2, rfl, ?_, .inr ⟨fun h => ?_, ?_, rfl, rfl, rfl⟩⟩
        · have h1 := HBe.out
          rw [HW.out] at h1
          exact ((Below.refl _ w).alloc (Nat.le_refl _) _).trans (h1.mono (by simp))
        · have := h.1
          rw [hbad] at this
          cases this
        · rw [hbad]; rfl
      | false =>
        obtain ⟨ad, A3, c3, rfl, hc0, hc1, hc2, hc3, hC⟩ := at44b H5.out S1.out.bel k hlt
        have PL := Aside0.mk (pre_len (hd := .num r.objects.length 2 65535) (enc := tObject) hlt)
        have HCC := Aside0.mk hC
        clear hC
        obtain ⟨x, hx⟩ : ∃ x, x = r.objects[k] := ⟨_, rfl⟩
        rw [← hx] at hc0 hc1 hc2 hc3 HCC PL
        have HX := Aside0.mk hx
        clear hx
        have hroom : (tb (preT r ++ pre (.num r.objects.length 2 65535) tObject r.objects k)).length + (tb (tKey x.f0)).length + 8 + (tb (tStripes x.f3)).length ≤ 140737488355328 := by
          have h1 := HL.out
          have h2 := PL.out
          have h3 := obj_len r.objects
          rw [tb_cons, List.length_append, num_len, (object_split x).1] at h2
          simp only [List.length_append, word_len] at h2
          rw [tb_append, List.length_append, preT_len]
          omega
        have HR := Aside0.mk hroom
        clear hroom
        have B1 : Aside0 ((wr.alloc (.cells #[.string x.f0, .int .i64 x.f1, .int .i64 x.f2, .slice A3 x.f3.length c3] 44)).heap[w.heap.size]? = some (.cells #[.int .i64 r.kind, .int .i64 r.id, .int .i64 r.size, .string r.key, .slice A4 r.stripes.length c4, .slice (some ad) r.objects.length c5, .slice A6 r.drives.length c6] 26 (0, 0))) := ⟨by rw [Below.heap_alloc _ _ _ (blk_lt B0.out)]; exact B0.out⟩
        have X1 := Aside0.mk (blk_new wr (.cells #[.string x.f0, .int .i64 x.f1, .int .i64 x.f2, .slice A3 x.f3.length c3] 44))
        replace S1 := Aside0.mk (S1.out.alloc (.cells #[.string x.f0, .int .i64 x.f1, .int .i64 x.f2, .slice A3 x.f3.length c3] 44))
        go_wp2_with (first | (go_at_call 22; go_must (refine (rkey_calls w0 _ _ _ _ x.f0 S1.out ?n2).mono ?_; (case n2 => have := HR.out; first | omega | (simp only [List.length_append, word_len] at this ⊢; omega)); rintro e w2 ⟨rfl, h1, h2⟩; replace S1 := Aside0.mk h1; replace B1 := Aside0.mk (h2.blk B1.out nt26); replace X1 := Aside0.mk (h2.blk X1.out nt44); have x0 := blk_cell X1.out 0; have x1 := blk_cell X1.out 1; have x2 := blk_cell X1.out 2; have x3 := blk_cell X1.out 3; clear h1 h2)) | (go_at_call 21; go_must (refine (rword_calls w0 _ _ _ _ _ S1.out ?n2).mono ?_; (case n2 => have := HR.out; first | omega | (simp only [List.length_append, word_len] at this ⊢; omega)); rintro e w2 ⟨rfl, h1, h2⟩; replace S1 := Aside0.mk h1; replace B1 := Aside0.mk (h2.blk B1.out nt26); replace X1 := Aside0.mk (h2.blk X1.out nt44); have x0 := blk_cell X1.out 0; have x1 := blk_cell X1.out 1; have x2 := blk_cell X1.out 2; have x3 := blk_cell X1.out 3; clear h1 h2)) | (go_at_call 23; go_must (refine (rstripes_calls w0 _ _ _ _ A3 _ x.f3 HCC.out S1.out ?n2).mono ?_; (case n2 => have := HR.out; first | omega | (simp only [List.length_append, word_len] at this ⊢; omega)); rintro e w2 ⟨rfl, h1, h2⟩; replace S1 := Aside0.mk h1; replace B1 := Aside0.mk (h2.blk B1.out nt26); replace X1 := Aside0.mk (h2.blk X1.out nt44); have x0 := blk_cell X1.out 0; have x1 := blk_cell X1.out 1; have x2 := blk_cell X1.out 2; have x3 := blk_cell X1.out 3; clear h1 h2)))
        go_roundw
        case rel =>
          refine ⟨k + 1, by go_num, ⟨hlt⟩, ⟨?_⟩, B1⟩
          have := S1.out
          rw [HB2.out] at this
          rw [pre_succ hlt, ← HX.out, ← List.append_assoc (preT r), tb_append _ (tObject x), tbad_append _ (tObject x), (object_split x).1, (object_split x).2]
          simpa only [List.append_assoc, Bool.or_assoc] using this
        case measure => simp [intOf]; omega
    · have hk : k = r.objects.length := by have := HK.out; omega
      have HKN := Aside0.mk hk
      clear hk
      obtain ⟨q0, q1, q2, q3, q4, q5, q6⟩ := rcells B0.out
      obtain ⟨B, hB⟩ : ∃ B, B = tbad (tRec r) := ⟨_, rfl⟩
      have HB := Aside0.mk hB
      have S1 : Aside0 (∀ w', RW w0 w' (w.heap.size + 1) (tb (preT r ++ pre (.num r.objects.length 2 65535) tObject r.objects k) ++ tb (tInts r.drives)) (tbad (preT r ++ pre (.num r.objects.length 2 65535) tObject r.objects k) || tbad (tInts r.drives)) → RW w0 w' (w.heap.size + 1) (tb (tRec r)) B) := ⟨fun w' h1 => by
        rw [pre_full HKN.out, ← tb_append, ← tbad_append, List.append_assoc, ← tRec_eq, ← hB] at h1
        exact h1⟩
      clear hB
      cases B with
      | true =>
        go_wp2_with (go_at_call 24; go_must (refine (rints_calls w0 _ _ _ _ A6 _ r.drives H6.out S0.out ?n2).mono ?_; (case n2 => have h1 := HL.out; have h2 := obj_len r.objects; rw [pre_full HKN.out, tb_append, List.length_append, preT_len, tb_cons, List.length_append, num_len]; omega); rintro e w4 ⟨rfl, h1, h2⟩; clear h2 q0 q1 q2 q3 q4 q5 q6; replace h1 := S1.out _ h1; have d1 := h1.cell; have HBe := Aside0.mk h1.bel; clear h1))
        go_ret2
        refine ⟨none, 0, 0, 2, rfl, ?_, .inr ⟨fun h => ?_, ?_, rfl, rfl, rfl⟩⟩
        · have h1 := HBe.out
          rw [HW.out] at h1
          exact ((Below.refl _ w).alloc (Nat.le_refl _) _).trans (h1.mono (by simp))
        · have := h.1
          rw [← HB.out] at this
          cases this
        · rw [← HB.out]; rfl
      | false =>
        obtain ⟨X, hX⟩ : ∃ X, X = tb (tRec r) := ⟨_, rfl⟩
        have HX := Aside0.mk hX
        clear hX
        have hcase : X.length ≤ 8192 ∨ 8192 < X.length := by omega
        rcases hcase with hXl | hXl
        all_goals
          go_wp2_with (go_at_call 24; go_must (refine (rints_calls w0 _ _ _ _ A6 _ r.drives H6.out S0.out ?n2).mono ?_; (case n2 => have h1 := HL.out; have h2 := obj_len r.objects; rw [pre_full HKN.out, tb_append, List.length_append, preT_len, tb_cons, List.length_append, num_len]; omega); rintro e w4 ⟨rfl, h1, h2⟩; clear h2 q0 q1 q2 q3 q4 q5 q6; replace h1 := S1.out _ h1; obtain ⟨bs, ⟨_, hbel, u, hm, hr⟩, hbs, _⟩ := h1; rw [hbs rfl, ← HX.out] at hr; obtain ⟨A, c, rfl, _, _⟩ := R_open hr; have d0 := blk_cell hm 0; have d1 := blk_cell hm 1; have HR := Aside0.mk hr; have HBe := Aside0.mk hbel; clear hm hr hbel hbs))
        · go_ret2
          refine ⟨A, X.length, c, 0, rfl, ?_, .inl ⟨⟨HB.out.symm, by rw [← HX.out]; exact hXl⟩, rfl, ?_⟩⟩
          · have h1 := HBe.out
            rw [HW.out] at h1
            exact ((Below.refl _ w).alloc (Nat.le_refl _) _).trans (h1.mono (by simp))
          · rw [← HX.out]
            exact Kd.R_lower HR.out (by rw [HZ.out]; omega)
        · go_ret2
          refine ⟨none, 0, 0, 4, rfl, ?_, .inr ⟨fun h => ?_, ?_, rfl, rfl, rfl⟩⟩
          · have h1 := HBe.out
            rw [HW.out] at h1
            exact ((Below.refl _ w).alloc (Nat.le_refl _) _).trans (h1.mono (by simp))
          · have := h.2
            rw [← HX.out] at this
            omega
          · rw [← HB.out]; rfl
end Go.Proofs.Ytcpekifbbjnjmaa
