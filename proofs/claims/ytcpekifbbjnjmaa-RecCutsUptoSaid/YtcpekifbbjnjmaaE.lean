/- (*writer).stripes, object. -/
import Derived.Test.YtcpekifbbjnjmaaD
set_option linter.unusedVariables false
namespace Go.Proofs.Ytcpekifbbjnjmaa
open Go.RowKit Go.Proofs.YtcpekifbbjnjmaaW.PrintWords Go.Proofs.YtcpekifbbjnjmaaW.PrintLast Go.Proofs.YtcpekifbbjnjmaaW.PrintMore Go.Proofs.Ytcpekifbbjnjmaa.PRecBack
theorem at41 {w : World} {A : Option Addr} {xs : List S41} (h : k41.C w A xs.length xs) (k : Nat) (hk : k < xs.length) : ∃ ad A2 c2, A = some ad ∧ w.cell? (ad.add (k * 3)) = some (.int .i64 xs[k].f0) ∧ w.cell? ⟨(ad.add (k * 3)).block, (ad.add (k * 3)).off + 1, none⟩ = some (.int .i64 xs[k].f1) ∧ w.cell? ⟨(ad.add (k * 3)).block, (ad.add (k * 3)).off + 2, none⟩ = some (.slice A2 xs[k].f2.length c2) ∧ xs[k].f2.length ≤ c2 ∧ (Kd.int .i64).C w A2 xs[k].f2.length xs[k].f2 := by
  have e : rd_T41 xs (k : Int) = xs[k] := by simp [rd_T41, hk]
  have := at_T41 h (k : Int) (by omega) (by omega)
  rw [e] at this
  simpa only [Int.toNat_natCast] using this
theorem at44 {w : World} {A : Option Addr} {xs : List S44} (h : k44.C w A xs.length xs) (k : Nat) (hk : k < xs.length) : ∃ ad A3 c3, A = some ad ∧ w.cell? (ad.add (k * 4)) = some (.string xs[k].f0) ∧ w.cell? ⟨(ad.add (k * 4)).block, (ad.add (k * 4)).off + 1, none⟩ = some (.int .i64 xs[k].f1) ∧ w.cell? ⟨(ad.add (k * 4)).block, (ad.add (k * 4)).off + 2, none⟩ = some (.int .i64 xs[k].f2) ∧ w.cell? ⟨(ad.add (k * 4)).block, (ad.add (k * 4)).off + 3, none⟩ = some (.slice A3 xs[k].f3.length c3) ∧ xs[k].f3.length ≤ c3 ∧ k41.C w A3 xs[k].f3.length xs[k].f3 := by
  have e : rd_T44 xs (k : Int) = xs[k] := by simp [rd_T44, hk]
  have := at_T44 h (k : Int) (by omega) (by omega)
  rw [e] at this
  simpa only [Int.toNat_natCast] using this
/-- The cells of an element are as they were. -/
theorem at41b {w0 w : World} {A : Option Addr} {xs : List S41} (h : k41.C w0 A xs.length xs) (hb : Below w0.heap.size w0 w) (k : Nat) (hk : k < xs.length) : ∃ ad A2 c2, A = some ad ∧ w.cell? (ad.add (k * 3)) = some (.int .i64 xs[k].f0) ∧ w.cell? ⟨(ad.add (k * 3)).block, (ad.add (k * 3)).off + 1, none⟩ = some (.int .i64 xs[k].f1) ∧ w.cell? ⟨(ad.add (k * 3)).block, (ad.add (k * 3)).off + 2, none⟩ = some (.slice A2 xs[k].f2.length c2) ∧ (Kd.int .i64).C w0 A2 xs[k].f2.length xs[k].f2 := by
  obtain ⟨ad, A2, c2, e, h0, h1, h2, _, hC⟩ := at41 h k hk
  exact ⟨ad, A2, c2, e, cell_later hb h0, cell_later hb h1, cell_later hb h2, hC⟩
theorem at44b {w0 w : World} {A : Option Addr} {xs : List S44} (h : k44.C w0 A xs.length xs) (hb : Below w0.heap.size w0 w) (k : Nat) (hk : k < xs.length) : ∃ ad A3 c3, A = some ad ∧ w.cell? (ad.add (k * 4)) = some (.string xs[k].f0) ∧ w.cell? ⟨(ad.add (k * 4)).block, (ad.add (k * 4)).off + 1, none⟩ = some (.int .i64 xs[k].f1) ∧ w.cell? ⟨(ad.add (k * 4)).block, (ad.add (k * 4)).off + 2, none⟩ = some (.int .i64 xs[k].f2) ∧ w.cell? ⟨(ad.add (k * 4)).block, (ad.add (k * 4)).off + 3, none⟩ = some (.slice A3 xs[k].f3.length c3) ∧ k41.C w0 A3 xs[k].f3.length xs[k].f3 := by
  obtain ⟨ad, A3, c3, e, h0, h1, h2, h3, _, hC⟩ := at44 h k hk
  exact ⟨ad, A3, c3, e, cell_later hb h0, cell_later hb h1, cell_later hb h2, cell_later hb h3, hC⟩
set_option maxHeartbeats 2000000 in
theorem stripes_calls (w0 W : World) (g : Nat) (bs : List Int) (bad : Bool) (A : Option Addr) (c : Nat) (l : List S41) (hA : k41.C w0 A l.length l) (h : Wr 47 w0 W g bs bad) (hl : bs.length + (tb (tStripes l)).length ≤ 140737488355328) :
    Calls Try.prog 18 #[.pointer (some ⟨g, 0, none⟩), .slice A l.length c] W (Wrote 47 w0 g (bs ++ tb (tStripes l)) (bad || tbad (tStripes l)) W) := by
  have ht : tStripes l = (.num l.length 1 255 :: l.flatMap tStripe) := rfl
  rw [ht] at hl ⊢
  have hl1 : bs.length + 1 ≤ 140737488355328 := by
    rw [tb_cons, List.length_append, num_len] at hl
    omega
  have hmax : l.length ≤ 9223372036854775807 := hA.2.1
  have S0 := Aside0.mk h
  have HL := Aside0.mk hl
  have HL1 := Aside0.mk hl1
  have HA := Aside0.mk hA
  clear h hl hl1 hA ht
  go_enter Try.func18, Try.ntmps18
  go_wp2_with (go_at_call 16; go_must (refine (num1_calls w0 _ g _ _ _ _ S0.out HL1.out).mono ?_; rintro e w1 ⟨rfl, h1, h2⟩; have S1 := Aside0.mk h1; have T1 := Aside0.mk h2; clear h1 h2 S0))
  go_loopw [5, 12] (fun _ v w' => ∃ k : Nat, v = .int .i64 k ∧ Aside0 (k ≤ l.length) ∧ Aside0 (Wr 47 w0 w' g (bs ++ tb (pre (.num l.length 1 255) tStripe l k)) (bad || tbad (pre (.num l.length 1 255) tStripe l k))) ∧ Aside0 (TC w0.heap.size W w')) (fun _ v _ => l.length - (intOf v).toNat)
  case atStart => exact ⟨0, rfl, ⟨Nat.zero_le _⟩, ⟨by rw [pre_zero, tb_cons, tb_nil, tbad_cons, tbad_nil, List.append_nil, Bool.or_false]; exact S1.out⟩, T1⟩
  case round =>
    clear S1 T1
    obtain ⟨k, rfl, HK, S0, T0⟩ := hrel
    by_cases hlt : k < l.length
    · obtain ⟨ad, A2, c2, rfl, hc0, hc1, hc2, hC⟩ := at41b HA.out S0.out.bel k hlt
      have PL := Aside0.mk (pre_len (hd := .num l.length 1 255) (enc := tStripe) hlt)
      have HCC := Aside0.mk hC
      clear hC
      obtain ⟨x, hx⟩ : ∃ x, x = l[k] := ⟨_, rfl⟩
      rw [← hx] at hc0 hc1 hc2 HCC PL
      have HX := Aside0.mk hx
      clear hx
      have hroom : (bs ++ tb (pre (.num l.length 1 255) tStripe l k)).length + 8 + (tb (tInts x.f2)).length ≤ 140737488355328 := by
        have h1 := HL.out
        have h2 := PL.out
        have h3 : (tb (tStripe x)).length = 8 + (tb (tInts x.f2)).length := by
          unfold tStripe
          rw [tb_cons, tb_cons, List.length_append, List.length_append, word_len, word_len]
          omega
        rw [h3] at h2
        rw [List.length_append]
        omega
      have HR := Aside0.mk hroom
      clear hroom
      have B0 := Aside0.mk (blk_new wr (.cells #[.int .i64 x.f0, .int .i64 x.f1, .slice A2 x.f2.length c2] 41))
      have T1 := Aside0.mk (T0.out.alloc (.cells #[.int .i64 x.f0, .int .i64 x.f1, .slice A2 x.f2.length c2] 41))
      have S1 := Aside0.mk (S0.out.alloc (.cells #[.int .i64 x.f0, .int .i64 x.f1, .slice A2 x.f2.length c2] 41))
      go_wp2_with (first | (go_at_call 16; go_must (refine (word_calls w0 _ g _ _ _ S1.out ?n3).mono ?_; (case n3 => have := HR.out; simp only [List.length_append, word_len] at this ⊢; omega); rintro e w2 ⟨rfl, h1, h2⟩; replace S1 := Aside0.mk h1; replace T1 := Aside0.mk (T1.out.then_ h2); replace B0 := Aside0.mk (h2.blk B0.out (by decide)); have q0 := blk_cell B0.out 0; have q1 := blk_cell B0.out 1; have q2 := blk_cell B0.out 2; clear h1 h2)) | (go_at_call 20; go_must (refine (ints_calls w0 _ g _ _ A2 _ x.f2 HCC.out S1.out ?n4).mono ?_; (case n4 => have := HR.out; simp only [List.length_append, word_len] at this ⊢; omega); rintro e w2 ⟨rfl, h1, h2⟩; replace S1 := Aside0.mk h1; replace T1 := Aside0.mk (T1.out.then_ h2); clear h1 h2)))
      go_roundw
      case rel =>
        refine ⟨k + 1, by go_num, ⟨hlt⟩, ⟨?_⟩, T1⟩
        have := S1.out
        rw [pre_succ hlt, ← HX.out, tb_append, tbad_append]
        rw [show tb (tStripe x) = (word x.f0).b ++ ((word x.f1).b ++ tb (tInts x.f2)) from rfl, show tbad (tStripe x) = ((word x.f0).bad || ((word x.f1).bad || tbad (tInts x.f2))) from rfl]
        simpa only [List.append_assoc, Bool.or_assoc] using this
      case measure => simp [intOf]; omega
    · have hk : k = l.length := by have := HK.out; omega
      have HKN := Aside0.mk hk
      clear hk
      go_wp2_with fail
      go_end0
      have := S0.out
      rw [pre_full HKN.out] at this
      exact ⟨rfl, this, T0.out⟩
set_option maxHeartbeats 2000000 in
theorem object_calls (w0 W : World) (g : Nat) (bs : List Int) (bad : Bool) (A : Option Addr) (c : Nat) (x : S44) (hA : k41.C w0 A x.f3.length x.f3) (h : Wr 47 w0 W g bs bad) (hl : bs.length + (tb (tObject x)).length ≤ 140737488355328) :
    Calls Try.prog 19 #[.pointer (some ⟨g, 0, none⟩), .agg #[.string x.f0, .int .i64 x.f1, .int .i64 x.f2, .slice A x.f3.length c]] W (Wrote 47 w0 g (bs ++ tb (tObject x)) (bad || tbad (tObject x)) W) := by
  have hroom : bs.length + (tb (tKey x.f0)).length + 8 + (tb (tStripes x.f3)).length ≤ 140737488355328 := by
    unfold tObject at hl
    rw [tb_append, tb_cons, tb_cons, List.length_append, List.length_append, List.length_append, word_len, word_len] at hl
    omega
  have HR := Aside0.mk hroom
  have HA := Aside0.mk hA
  have B0 := Aside0.mk (blk_new W (.cells #[.string x.f0, .int .i64 x.f1, .int .i64 x.f2, .slice A x.f3.length c] 44))
  have T1 := Aside0.mk ((TC.refl w0.heap.size W).alloc (.cells #[.string x.f0, .int .i64 x.f1, .int .i64 x.f2, .slice A x.f3.length c] 44))
  have S1 := Aside0.mk (h.alloc (.cells #[.string x.f0, .int .i64 x.f1, .int .i64 x.f2, .slice A x.f3.length c] 44))
  clear h hl hA hroom
  go_enter Try.func19, Try.ntmps19
  go_wp2_with (first | (go_at_call 17; go_must (refine (key_calls w0 _ g _ _ x.f0 S1.out ?n2).mono ?_; (case n2 => have := HR.out; omega); rintro e w2 ⟨rfl, h1, h2⟩; replace S1 := Aside0.mk h1; replace T1 := Aside0.mk (T1.out.then_ h2); replace B0 := Aside0.mk (h2.blk B0.out (by decide)); have q0 := blk_cell B0.out 0; have q1 := blk_cell B0.out 1; have q2 := blk_cell B0.out 2; have q3 := blk_cell B0.out 3; clear h1 h2)) | (go_at_call 16; go_must (refine (word_calls w0 _ g _ _ _ S1.out ?n3).mono ?_; (case n3 => have := HR.out; simp only [List.length_append, word_len] at this ⊢; omega); rintro e w2 ⟨rfl, h1, h2⟩; replace S1 := Aside0.mk h1; replace T1 := Aside0.mk (T1.out.then_ h2); replace B0 := Aside0.mk (h2.blk B0.out (by decide)); have q0 := blk_cell B0.out 0; have q1 := blk_cell B0.out 1; have q2 := blk_cell B0.out 2; have q3 := blk_cell B0.out 3; clear h1 h2)) | (go_at_call 18; go_must (refine (stripes_calls w0 _ g _ _ A _ x.f3 HA.out S1.out ?n4).mono ?_; (case n4 => have := HR.out; simp only [List.length_append, word_len] at this ⊢; omega); rintro e w2 ⟨rfl, h1, h2⟩; replace S1 := Aside0.mk h1; replace T1 := Aside0.mk (T1.out.then_ h2); clear h1 h2)))
  go_end0
  refine ⟨rfl, ?_, T1.out⟩
  have := S1.out
  rw [show tb (tObject x) = tb (tKey x.f0) ++ ((word x.f1).b ++ ((word x.f2).b ++ tb (tStripes x.f3))) from by unfold tObject; rw [tb_append]; rfl, show tbad (tObject x) = (tbad (tKey x.f0) || ((word x.f1).bad || ((word x.f2).bad || tbad (tStripes x.f3)))) from by unfold tObject; rw [tbad_append]; rfl]
  simpa only [List.append_assoc, Bool.or_assoc] using this
end Go.Proofs.Ytcpekifbbjnjmaa
