/- Encode: a record's bytes, or that it has none. -/
import Derived.Test.YtcpekifbbjnjmaaE
set_option linter.unusedVariables false
namespace Go.Proofs.Ytcpekifbbjnjmaa
open Go.RowKit Go.Proofs.YtcpekifbbjnjmaaW.PrintWords Go.Proofs.YtcpekifbbjnjmaaW.PrintLast Go.Proofs.YtcpekifbbjnjmaaW.PrintMore Go.Proofs.Ytcpekifbbjnjmaa.PRecBack
/-- What Encode answers. -/
def EncTo (r : Rc) (w : World) (e : Ending) (w' : World) : Prop :=
  ∃ A m c code, e = .returned (.tuple #[.slice A m c, .int .i64 code]) ∧ Below w.heap.size w w' ∧
    ((OkRec r ∧ code = 0 ∧ B8.R 5 w' w.heap.size (fun _ => True) (.slice A m c) (tb (tRec r))) ∨ (¬ OkRec r ∧ code = (if tbad (tRec r) = true then 2 else 4) ∧ A = none ∧ m = 0 ∧ c = 0))
theorem wr_new (T : Nat) (w0 : World) : Wr T w0 (w0.alloc (.cells #[.slice none 0 0, .bool false] T)) w0.heap.size [] false :=
  ⟨Nat.le_refl _, (Below.refl _ _).alloc (Nat.le_refl _) _, .slice none 0 0, blk_new _ _, Kd.R_nil _ _ _ _ _⟩
theorem ne47 : (5 : Nat) ≠ 47 := by decide
theorem ne55 : (5 : Nat) ≠ 55 := by decide
theorem nt26 : (26 : TypeId) ≠ 5 ∧ (26 : TypeId) ≠ 47 ∧ (26 : TypeId) ≠ 55 ∧ (26 : TypeId) ≠ 57 := by decide
theorem nt44 : (44 : TypeId) ≠ 5 ∧ (44 : TypeId) ≠ 47 ∧ (44 : TypeId) ≠ 55 ∧ (44 : TypeId) ≠ 57 := by decide
/-- The cells of a record in a block of its own. -/
theorem rcells {w : World} {g : Nat} {r : Rc} {A4 A5 A6 : Option Addr} {c4 c5 c6 : Nat} (h : w.heap[g]? = some (.cells #[.int .i64 r.kind, .int .i64 r.id, .int .i64 r.size, .string r.key, .slice A4 r.stripes.length c4, .slice A5 r.objects.length c5, .slice A6 r.drives.length c6] 26 (0, 0))) :
    w.cell? ⟨g, 0, none⟩ = some (.int .i64 r.kind) ∧ w.cell? ⟨g, 1, none⟩ = some (.int .i64 r.id) ∧ w.cell? ⟨g, 2, none⟩ = some (.int .i64 r.size) ∧ w.cell? ⟨g, 3, none⟩ = some (.string r.key) ∧
      w.cell? ⟨g, 4, none⟩ = some (.slice A4 r.stripes.length c4) ∧ w.cell? ⟨g, 5, none⟩ = some (.slice A5 r.objects.length c5) ∧ w.cell? ⟨g, 6, none⟩ = some (.slice A6 r.drives.length c6) :=
  ⟨blk_cell h 0, blk_cell h 1, blk_cell h 2, blk_cell h 3, blk_cell h 4, blk_cell h 5, blk_cell h 6⟩
theorem obj_len (l : List S44) : (tb (tObjects l)).length = 2 + (tb (l.flatMap tObject)).length := by
  unfold tObjects
  rw [tb_cons, List.length_append, num_len]
theorem rec_len (r : Rc) : (tb (tRec r)).length = 1 + 4 + 4 + (tb (tKey r.key)).length + (tb (tStripes r.stripes)).length + (tb (tObjects r.objects)).length + (tb (tInts r.drives)).length := by
  unfold tRec
  simp only [tb_cons, tb_append, List.length_append, num_len, word_len]
  simp [Tok.b]
  omega
def hdT (r : Rc) : List Tok := [.num r.kind 1 5, .chk (decide (r.kind < 1))]
/-- What is written ahead of the objects. -/
def preT (r : Rc) : List Tok := hdT r ++ (word r.id :: word r.size :: (tKey r.key ++ tStripes r.stripes))
theorem tRec_eq (r : Rc) : tRec r = preT r ++ ((.num r.objects.length 2 65535 :: r.objects.flatMap tObject) ++ tInts r.drives) := by
  unfold tRec preT hdT tObjects
  simp
theorem hdT_b (r : Rc) : tb (hdT r) = Tok.b (.num r.kind 1 5) := by
  unfold hdT
  rw [tb_cons, tb_cons, tb_nil]
  simp [Tok.b]
theorem preT_len (r : Rc) : (tb (preT r)).length = 1 + 4 + 4 + (tb (tKey r.key)).length + (tb (tStripes r.stripes)).length := by
  unfold preT
  simp only [tb_cons, tb_append, List.length_append, hdT_b, num_len, word_len]
  omega
set_option maxHeartbeats 4000000 in
set_option maxRecDepth 100000 in
theorem encode_calls (r : Rc) (A4 A5 A6 : Option Addr) (c4 c5 c6 : Nat) (w : World) (h4 : k41.C w A4 r.stripes.length r.stripes) (h5 : k44.C w A5 r.objects.length r.objects) (h6 : (Kd.int .i64).C w A6 r.drives.length r.drives) (hl : (tb (tRec r)).length ≤ 140737488355328) :
    Calls Try.prog 10 #[.agg #[.int .i64 r.kind, .int .i64 r.id, .int .i64 r.size, .string r.key, .slice A4 r.stripes.length c4, .slice A5 r.objects.length c5, .slice A6 r.drives.length c6]] w (EncTo r w) := by
  have hmax : r.objects.length ≤ 9223372036854775807 := h5.2.1
  rw [rec_len] at hl
  have HL := Aside0.mk hl
  obtain ⟨w0, hw0⟩ : ∃ w0, w0 = w.alloc (.cells #[.int .i64 r.kind, .int .i64 r.id, .int .i64 r.size, .string r.key, .slice A4 r.stripes.length c4, .slice A5 r.objects.length c5, .slice A6 r.drives.length c6] 26) := ⟨_, rfl⟩
  have HW := Aside0.mk hw0
  have hsz : w0.heap.size = w.heap.size + 1 := by rw [hw0]; simp
  have HZ := Aside0.mk hsz
  have H4 := Aside0.mk (show k41.C w0 A4 r.stripes.length r.stripes by rw [hw0]; exact Kd.C_alloc h4 _)
  have H5 := Aside0.mk (show k44.C w0 A5 r.objects.length r.objects by rw [hw0]; exact Kd.C_alloc h5 _)
  have H6 := Aside0.mk (show (Kd.int .i64).C w0 A6 r.drives.length r.drives by rw [hw0]; exact Kd.C_alloc h6 _)
  have S0 : Aside0 (Wr 47 w0 (w0.alloc (.cells #[.slice none 0 0, .bool false] 47)) w0.heap.size [] false) := ⟨wr_new 47 w0⟩
  have B0 : Aside0 (w0.heap[w.heap.size]? = some (.cells #[.int .i64 r.kind, .int .i64 r.id, .int .i64 r.size, .string r.key, .slice A4 r.stripes.length c4, .slice A5 r.objects.length c5, .slice A6 r.drives.length c6] 26 (0, 0))) := ⟨by rw [hw0]; exact blk_new _ _⟩
  have S1 : Aside0 (Wr 47 w0 ((w.alloc (.cells #[.int .i64 r.kind, .int .i64 r.id, .int .i64 r.size, .string r.key, .slice A4 r.stripes.length c4, .slice A5 r.objects.length c5, .slice A6 r.drives.length c6] 26)).alloc (.cells #[.slice none 0 0, .bool false] 47)) (w.heap.size + 1) [] false) := ⟨by have := S0.out; rw [hsz] at this; rw [← hw0]; exact this⟩
  have B1 : Aside0 (((w.alloc (.cells #[.int .i64 r.kind, .int .i64 r.id, .int .i64 r.size, .string r.key, .slice A4 r.stripes.length c4, .slice A5 r.objects.length c5, .slice A6 r.drives.length c6] 26)).alloc (.cells #[.slice none 0 0, .bool false] 47)).heap[w.heap.size]? = some (.cells #[.int .i64 r.kind, .int .i64 r.id, .int .i64 r.size, .string r.key, .slice A4 r.stripes.length c4, .slice A5 r.objects.length c5, .slice A6 r.drives.length c6] 26 (0, 0))) := ⟨by rw [← hw0, Below.heap_alloc _ _ _ (blk_lt B0.out)]; exact B0.out⟩
  clear h4 h5 h6 hl hw0 hsz S0 B0
  obtain ⟨b1, hb1⟩ : ∃ b1, b1 = (false || Tok.bad (.num r.kind 1 5)) := ⟨_, rfl⟩
  obtain ⟨b3, hb3⟩ : ∃ b3, b3 = (b1 || decide (r.kind < 1)) := ⟨_, rfl⟩
  have HB1 := Aside0.mk hb1
  have HB3 := Aside0.mk hb3
  have hk : (b1 = true ∧ b3 = true) ∨ (b1 = false ∧ decide (r.kind < 1) = true ∧ b3 = true) ∨ (b1 = false ∧ decide (r.kind < 1) = false ∧ b3 = false) := by
    cases b1
    · by_cases h : r.kind < 1
      · exact .inr (.inl ⟨rfl, decide_eq_true h, by rw [hb3, decide_eq_true h]; rfl⟩)
      · exact .inr (.inr ⟨rfl, decide_eq_false h, by rw [hb3, decide_eq_false h]; rfl⟩)
    · exact .inl ⟨rfl, by rw [hb3]; rfl⟩
  have HE : Aside0 (tbad (hdT r) = b3) := ⟨by rw [hb3, hb1]; unfold hdT; rw [tbad_cons, tbad_cons, tbad_nil]; simp [Tok.bad]⟩
  clear hb1 hb3
  rcases hk with ⟨rfl, rfl⟩ | ⟨rfl, hk, rfl⟩ | ⟨rfl, hk, rfl⟩
  all_goals
    go_enter Try.func10, Try.ntmps10
    go_wp2_with (first | (go_at_call 16; (with_reducible refine (num1_calls w0 _ _ _ _ _ 5 S1.out ?n1).mono ?_); (case n1 => decide); rintro e w2 ⟨rfl, h1, h2⟩; rw [← HB1.out] at h1; have S2 := fun b => Aside0.mk (h1.mark ne47 b); have Bq := h2.blk B1.out nt26; have B2 := fun b => Aside0.mk (blk_far Bq (p := ⟨w.heap.size + 1, 1, none⟩) (Nat.ne_of_lt (Nat.lt_succ_self _)) (.bool b)); obtain ⟨q0, q1, q2, q3, q4, q5, q6⟩ := rcells Bq; obtain ⟨_, _, u, hm, hr⟩ := h1; obtain ⟨A, m, c, rfl⟩ := R_sl hr; have d0 := blk_cell hm 0; have d1 := blk_cell hm 1; have d2 := blk_frozen hm 1; clear hm hr S1 h2 Bq B1) | (go_at_call 16; (with_reducible refine (word_calls w0 _ _ _ _ _ (S2 _).out ?n2).mono ?_); (case n2 => have := HL.out; simp only [List.length_append, List.length_nil, num_len] at this ⊢; omega); rintro e w3 ⟨rfl, h1, h2⟩; have S1 := Aside0.mk h1; have B1 := Aside0.mk (h2.blk (B2 _).out nt26); obtain ⟨q0, q1, q2, q3, q4, q5, q6⟩ := rcells B1.out; clear h1 h2 S2 B2) | (go_at_call 16; (with_reducible refine (word_calls w0 _ _ _ _ _ S1.out ?n2).mono ?_); (case n2 => have := HL.out; simp only [List.length_append, List.length_nil, word_len, num_len] at this ⊢; omega); rintro e w3 ⟨rfl, h1, h2⟩; replace S1 := Aside0.mk h1; replace B1 := Aside0.mk (h2.blk B1.out nt26); obtain ⟨q0, q1, q2, q3, q4, q5, q6⟩ := rcells B1.out; clear h1 h2) | (go_at_call 17; (with_reducible refine (key_calls w0 _ _ _ _ r.key S1.out ?n2).mono ?_); (case n2 => have := HL.out; simp only [List.length_append, List.length_nil, word_len, num_len] at this ⊢; omega); rintro e w3 ⟨rfl, h1, h2⟩; replace S1 := Aside0.mk h1; replace B1 := Aside0.mk (h2.blk B1.out nt26); obtain ⟨q0, q1, q2, q3, q4, q5, q6⟩ := rcells B1.out; clear h1 h2) | (go_at_call 18; (with_reducible refine (stripes_calls w0 _ _ _ _ A4 _ r.stripes H4.out S1.out ?n2).mono ?_); (case n2 => have := HL.out; simp only [List.length_append, List.length_nil, word_len, num_len] at this ⊢; omega); rintro e w3 ⟨rfl, h1, h2⟩; replace S1 := Aside0.mk h1; replace B1 := Aside0.mk (h2.blk B1.out nt26); obtain ⟨q0, q1, q2, q3, q4, q5, q6⟩ := rcells B1.out; clear h1 h2) | (go_at_call 16; (with_reducible refine (num2_calls w0 _ _ _ _ _ 65535 S1.out ?n2).mono ?_); (case n2 => have := HL.out; have ho := obj_len r.objects; simp only [List.length_append, List.length_nil, word_len, num_len] at ⊢; omega); rintro e w3 ⟨rfl, h1, h2⟩; replace S1 := Aside0.mk h1; replace B1 := Aside0.mk (h2.blk B1.out nt26); obtain ⟨q0, q1, q2, q3, q4, q5, q6⟩ := rcells B1.out; clear h1 h2))
    have S3 : Aside0 (Wr 47 w0 w3 (w.heap.size + 1) (tb (preT r ++ pre (.num r.objects.length 2 65535) tObject r.objects 0)) (tbad (preT r ++ pre (.num r.objects.length 2 65535) tObject r.objects 0))) := ⟨by
      have := S1.out
      unfold preT
      simp only [pre_zero, tb_append, tb_cons, tb_nil, tbad_append, tbad_cons, tbad_nil, HE.out, hdT_b, List.append_assoc, List.nil_append, List.append_nil, Bool.or_assoc, Bool.or_false] at this ⊢
      exact this⟩
    clear S1
    go_loopw [6, 49] (fun _ v w' => ∃ k : Nat, v = .int .i64 k ∧ Aside0 (k ≤ r.objects.length) ∧ Aside0 (Wr 47 w0 w' (w.heap.size + 1) (tb (preT r ++ pre (.num r.objects.length 2 65535) tObject r.objects k)) (tbad (preT r ++ pre (.num r.objects.length 2 65535) tObject r.objects k))) ∧ Aside0 (w'.heap[w.heap.size]? = some (.cells #[.int .i64 r.kind, .int .i64 r.id, .int .i64 r.size, .string r.key, .slice A4 r.stripes.length c4, .slice A5 r.objects.length c5, .slice A6 r.drives.length c6] 26 (0, 0)))) (fun _ v _ => r.objects.length - (intOf v).toNat)
    case atStart => exact ⟨0, rfl, ⟨Nat.zero_le _⟩, S3, B1⟩
    case round =>
      clear S3 B1 q0 q1 q2 q3 q4 q5 q6
      obtain ⟨k, rfl, HK, S0, B0⟩ := hrel
      by_cases hlt : k < r.objects.length
      · obtain ⟨ad, A3, c3, rfl, hc0, hc1, hc2, hc3, hC⟩ := at44b H5.out S0.out.bel k hlt
        have PL := Aside0.mk (pre_len (hd := .num r.objects.length 2 65535) (enc := tObject) hlt)
        have HCC := Aside0.mk hC
        clear hC
        obtain ⟨x, hx⟩ : ∃ x, x = r.objects[k] := ⟨_, rfl⟩
        rw [← hx] at hc0 hc1 hc2 hc3 HCC PL
        have HX := Aside0.mk hx
        clear hx
        have S1 := Aside0.mk (S0.out.alloc (.cells #[.string x.f0, .int .i64 x.f1, .int .i64 x.f2, .slice A3 x.f3.length c3] 44))
        have B1 : Aside0 ((wr.alloc (.cells #[.string x.f0, .int .i64 x.f1, .int .i64 x.f2, .slice A3 x.f3.length c3] 44)).heap[w.heap.size]? = some (.cells #[.int .i64 r.kind, .int .i64 r.id, .int .i64 r.size, .string r.key, .slice A4 r.stripes.length c4, .slice (some ad) r.objects.length c5, .slice A6 r.drives.length c6] 26 (0, 0))) := ⟨by rw [Below.heap_alloc _ _ _ (blk_lt B0.out)]; exact B0.out⟩
        go_wp2_with (go_at_call 19; go_must (refine (object_calls w0 _ _ _ _ A3 c3 x HCC.out S1.out ?n2).mono ?_; (case n2 => have h1 := HL.out; have h2 := PL.out; have h3 := obj_len r.objects; rw [tb_cons, List.length_append, num_len] at h2; rw [tb_append, List.length_append, preT_len]; omega); rintro e w4 ⟨rfl, h1, h2⟩; replace S1 := Aside0.mk h1; replace B1 := Aside0.mk (h2.blk B1.out nt26); clear h1 h2))
        go_roundw
        case rel =>
          refine ⟨k + 1, by go_num, ⟨hlt⟩, ⟨?_⟩, B1⟩
          have := S1.out
          rw [pre_succ hlt, ← HX.out, ← List.append_assoc (preT r), tb_append _ (tObject x), tbad_append _ (tObject x)]
          exact this
        case measure => simp [intOf]; omega
      · have hk : k = r.objects.length := by have := HK.out; omega
        have HKN := Aside0.mk hk
        clear hk
        obtain ⟨q0, q1, q2, q3, q4, q5, q6⟩ := rcells B0.out
        obtain ⟨X, hX⟩ : ∃ X, X = tb (tRec r) := ⟨_, rfl⟩
        have HX := Aside0.mk hX
        obtain ⟨B, hB⟩ : ∃ B, B = tbad (tRec r) := ⟨_, rfl⟩
        have HB := Aside0.mk hB
        clear hX hB
        have hcase : B = true ∨ (B = false ∧ X.length ≤ 8192) ∨ (B = false ∧ 8192 < X.length) := by
          cases B
          · rcases Nat.lt_or_ge 8192 X.length with h | h
            · exact .inr (.inr ⟨rfl, h⟩)
            · exact .inr (.inl ⟨rfl, h⟩)
          · exact .inl rfl
        rcases hcase with rfl | ⟨rfl, hXl⟩ | ⟨rfl, hXl⟩
        all_goals
          go_wp2_with (go_at_call 20; go_must (refine (ints_calls w0 _ _ _ _ A6 _ r.drives H6.out S0.out ?n2).mono ?_; (case n2 => have h1 := HL.out; have h2 := obj_len r.objects; rw [pre_full HKN.out, tb_append, List.length_append, preT_len, tb_cons, List.length_append, num_len]; omega); rintro e w4 ⟨rfl, h1, h2⟩; clear h2 q0 q1 q2 q3 q4 q5 q6; rw [pre_full HKN.out, ← tb_append, ← tbad_append, List.append_assoc, ← tRec_eq, ← HX.out, ← HB.out] at h1; obtain ⟨_, hbel, u, hm, hr⟩ := h1; obtain ⟨A, c, rfl, _, _⟩ := R_open hr; have d0 := blk_cell hm 0; have d1 := blk_cell hm 1; have HR := Aside0.mk hr; have HBe := Aside0.mk hbel; clear hm hr hbel))
        · go_ret2
          refine ⟨none, 0, 0, 2, rfl, ?_, .inr ⟨fun h => ?_, ?_, rfl, rfl, rfl⟩⟩
          · have h1 := HBe.out
            rw [HW.out] at h1
            exact ((Below.refl _ w).alloc (Nat.le_refl _) _).trans (h1.mono (by simp))
          · have := h.1
            rw [← HB.out] at this
            cases this
          · rw [← HB.out]; rfl
        · go_ret2
          refine ⟨A, X.length, c, 0, rfl, ?_, .inl ⟨⟨HB.out.symm, by rw [← HX.out]; exact hXl⟩, rfl, ?_⟩⟩
          · have h1 := HBe.out
            rw [HW.out] at h1
            exact ((Below.refl _ w).alloc (Nat.le_refl _) _).trans (h1.mono (by simp))
          · rw [← HX.out]
            exact Kd.R_lower HR.out (by rw [HZ.out]; omega)
        · go_ret2
          refine ⟨none, 0, 0, 4, rfl, ?_, .inr ⟨fun h => ?_, ?_, rfl, rfl, rfl⟩⟩
          · have h1 := HBe.out
            rw [HW.out] at h1
            exact ((Below.refl _ w).alloc (Nat.le_refl _) _).trans (h1.mono (by simp))
          · have := h.2
            rw [← HX.out] at this
            omega
          · rw [← HB.out]; rfl
end Go.Proofs.Ytcpekifbbjnjmaa
