/- RecCuts: a record's bytes that are cut off, or have one more, are none. -/
import Derived.Test.YtcpekifbbjnjmaaR2
set_option linter.unusedVariables false
namespace Go.Proofs.Ytcpekifbbjnjmaa
open Go.RowKit Go.Proofs.YtcpekifbbjnjmaaW.PrintWords Go.Proofs.YtcpekifbbjnjmaaW.PrintLast Go.Proofs.YtcpekifbbjnjmaaW.PrintMore Go.Proofs.Ytcpekifbbjnjmaa.PRecBack
section
variable {ops : Array Oper} {rest : List Oper} {o : Oper} {a : Act} {Q : Exit → Act → World → Prop}
/-- append(v, ys...), v a row of bytes of the call's own. -/
theorem ap8 {W : World} (base : Nat) (hgd : o.guard = none) (s x : Operand)
    (ho : o.op = .call { callee := .builtin .append, args := #[s, x], argTypes := #[29, 29] })
    (v : Value) (xs ys : List Int) (A : Option Addr) (m c : Nat) (hs : a.eval s = v) (hx : a.eval x = .slice A m c)
    (HO : B8.R 5 W base (fun _ => True) v xs) (HR : B8.C W A m ys) (hbase : base ≤ W.heap.size) (hl : xs.length + m ≤ 140737488355328)
    (h : ∀ v1 w1, B8.R 5 w1 base (fun _ => True) v1 (xs ++ ys) → Ch W w1 (fun k => v.ownBlock = some k) → wpList Try.prog ops Q rest (a.put o.dst v1) w1) :
    wpList Try.prog ops Q (o :: rest) a W :=
  apR B8 base hgd s x 29 5 (.int .u8 0) 1 ho Try.underlying29 inf5 rfl (by decide) (by omega) v xs ys A m c (fun _ => True) (fun _ => False) hs hx HO HR (fun _ _ h => h) (fun _ hk => hk.elim) (fun _ _ => trivial) hbase (by omega) fun v1 w1 hr hc _ => h v1 w1 hr hc
theorem ap81 {W : World} (base : Nat) (hgd : o.guard = none) (s x : Operand) (ho : o.op = .call { callee := .builtin .append, args := #[s, x], argTypes := #[29, 29] })
    (v : Value) (xs : List Int) (p : Int) (hs : a.eval s = v) (hx : a.eval x = .slice (some ⟨W.heap.size, 0, none⟩) 1 1)
    (HO : B8.R 5 W base (fun _ => True) v xs) (hbase : base ≤ W.heap.size) (hl : xs.length + 1 ≤ 140737488355328)
    (h : ∀ v1 w1, B8.R 5 w1 base (fun _ => True) v1 (xs ++ [p]) → Ch W w1 (fun k => v.ownBlock = some k) → wpList Try.prog ops Q rest (a.put o.dst v1) w1) :
    wpList Try.prog ops Q (o :: rest) a (W.alloc (.cells #[.int .u8 p] 5)) :=
  apO B8 base hgd s x 29 5 (.int .u8 0) 1 ho Try.underlying29 inf5 rfl (by decide) (by omega) v xs p [.int .u8 p] (fun _ => True) (fun _ => False) hs hx rfl (fun _ hk => hk.elim) (fun _ _ => trivial) HO hbase (by omega) fun v1 w1 hr hc _ => h v1 w1 hr hc
end
set_option maxHeartbeats 8000000 in
set_option maxRecDepth 100000 in
theorem cuts_calls (r : Rc) (v4 v5 v6 : Sl) (at_ more : Int) (w : World) (h : RecAt w r v4 v5 v6) (hm : Mod r) (hl : (tb (tRec r)).length ≤ 140737488355328) (ha0 : 0 ≤ at_) (ha1 : at_ < 65536) (hm0 : 0 ≤ more) (hm1 : more < 256) :
    Calls Try.prog 5 #[.agg #[.int .i64 r.kind, .int .i64 r.id, .int .i64 r.size, .string r.key, .slice v4.A v4.n v4.c, .slice v5.A v5.n v5.c, .slice v6.A v6.n v6.c], .int .u16 at_, .int .u8 more] w (Law w) := by
  obtain ⟨b, hsm⟩ := small_at2 r hm
  have K8 : Aside0 (∀ (w2 : World), Below w.heap.size w w2 → Calls Try.prog 8 #[.agg #[.int .i64 r.kind, .int .i64 r.id, .int .i64 r.size, .string r.key, .slice v4.A v4.n v4.c, .slice v5.A v5.n v5.c, .slice v6.A v6.n v6.c]] w2 fun e w' => e = .returned (.bool b) ∧ Aside0 (Below w2.heap.size w2 w')) := ⟨fun w2 hb => hsm v4 v5 v6 w2 (h.below hb)⟩
  have hB0 := below_alloc (Below.refl w.heap.size w) (.cells #[.int .i64 r.kind, .int .i64 r.id, .int .i64 r.size, .string r.key, .slice v4.A v4.n v4.c, .slice v5.A v5.n v5.c, .slice v6.A v6.n v6.c] 26)
  have B0 := Aside0.mk hB0
  have X0 := Aside0.mk (blk_new w (.cells #[.int .i64 r.kind, .int .i64 r.id, .int .i64 r.size, .string r.key, .slice v4.A v4.n v4.c, .slice v5.A v5.n v5.c, .slice v6.A v6.n v6.c] 26))
  clear hsm hB0
  cases b with
  | false =>
    clear h hm hl
    go_enter Try.func5, Try.ntmps5
    go_wp2_with (first | (go_at_call 8; go_must (refine (K8.out _ B0.out).mono ?_; rintro e w2 ⟨rfl, hb2⟩; have B2 := Aside0.mk (B0.out.trans (hb2.out.mono B0.out.size)))) | (go_at_call 9; go_must (refine (ans _).mono ?_; rintro e w4 ⟨rfl, hb4⟩)))
    go_ret
    exact ⟨rfl, B2.out.trans (hb4.out.mono B2.out.size)⟩
  | true =>
    by_cases hok : OkRec r
    · have K11 : Aside0 (∀ (w2 : World), Below w.heap.size w w2 → Calls Try.prog 11 #[.agg #[.int .i64 r.kind, .int .i64 r.id, .int .i64 r.size, .string r.key, .slice v4.A v4.n v4.c, .slice v5.A v5.n v5.c, .slice v6.A v6.n v6.c]] w2 (Enc1 r w2)) := ⟨fun w2 hb => (rencode_at r v4 v5 v6 w2 (h.below hb) hl).mono fun e w' h => enc_yes hok h⟩
      obtain ⟨L, hL⟩ : ∃ L, L = (tb (tRec r)).length := ⟨_, rfl⟩
      have hL0 : 14 ≤ L ∧ L ≤ 8192 := by
        rw [hL]
        refine ⟨?_, hok.2⟩
        rw [rec_len, key_len, obj_len]
        have h1 : 1 ≤ (tb (tStripes r.stripes)).length := by unfold tStripes; rw [tb_cons, List.length_append, num_len]; omega
        have h2 : 1 ≤ (tb (tInts r.drives)).length := by unfold tInts; rw [tb_cons, List.length_append, num_len]; omega
        omega
      obtain ⟨k, hk⟩ : ∃ k : Int, at_ % (L : Int) = k := ⟨_, rfl⟩
      have hk0 : 0 ≤ k := by rw [← hk]; exact Int.emod_nonneg _ (by omega)
      have hk1 : k < L := by rw [← hk]; exact Int.emod_lt_of_pos _ (by omega)
      have K13 : Aside0 (∀ (A : Option Addr) (c : Nat) (w2 : World), BytesAt w2 A L c (tb (tRec r)) → Calls Try.prog 13 #[.slice A k.toNat c] w2 fun e w' => ∃ u4 u5 u6 : Sl, e = .returned (.tuple #[.agg #[.int .i64 0, .int .i64 0, .int .i64 0, .string ⟨#[]⟩, .slice u4.A u4.n u4.c, .slice u5.A u5.n u5.c, .slice u6.A u6.n u6.c], .int .i64 2]) ∧
          Aside0 (Below w2.heap.size w2 w') ∧ Aside0 (RecAt w' rc0 u4 u5 u6)) := ⟨fun A c w2 hb => by
        have hlen : ((tb (tRec r)).take k.toNat).length = k.toNat := by rw [List.length_take]; omega
        refine decode_no A k.toNat c ((tb (tRec r)).take k.toNat) w2 (fun r2 => dec_less r hok k.toNat (by omega) r2) hlen.symm (by have := hb.l; omega) ?_ ((byt_rec r).take _)
        have h1 := hb.c
        rw [hL] at h1
        have h2 := Kd.C_take (m := k.toNat) h1 (by omega)
        rwa [hlen] at h2⟩
      have K13' : Aside0 (∀ (A : Option Addr) (m c : Nat) (w2 : World), BytesAt w2 A m c (tb (tRec r) ++ [more]) → Calls Try.prog 13 #[.slice A m c] w2 fun e w' => ∃ u4 u5 u6 : Sl, e = .returned (.tuple #[.agg #[.int .i64 0, .int .i64 0, .int .i64 0, .string ⟨#[]⟩, .slice u4.A u4.n u4.c, .slice u5.A u5.n u5.c, .slice u6.A u6.n u6.c], .int .i64 2]) ∧
          Aside0 (Below w2.heap.size w2 w') ∧ Aside0 (RecAt w' rc0 u4 u5 u6)) := ⟨fun A m c w2 hb => decode_no A m c _ w2 (fun r2 => dec_more r hok [more] (by simp) r2) hb.n hb.l hb.c ((byt_rec r).append (fun x hx => by simp at hx; omega))⟩
      have K14 : Aside0 (∀ (u4 u5 u6 : Sl) (w2 : World), RecAt w2 rc0 u4 u5 u6 → Calls Try.prog 14 #[.agg #[.int .i64 0, .int .i64 0, .int .i64 0, .string ⟨#[]⟩, .slice u4.A u4.n u4.c, .slice u5.A u5.n u5.c, .slice u6.A u6.n u6.c], .agg #[.int .i64 0, .int .i64 0, .int .i64 0, .string ⟨#[]⟩, .slice none 0 0, .slice none 0 0, .slice none 0 0]] w2 (Says (rc0 = rc0) w2)) := ⟨fun u4 u5 u6 w2 hu => rsame_at rc0 rc0 u4 u5 u6 sl0 sl0 sl0 w2 hu (rec_nil _)⟩
      have HL := Aside0.mk hL
      obtain ⟨hL1, hL2⟩ := hL0
      have hLm : (L : Int) ≠ 0 := by omega
      have hLp : (0 : Int) < (L : Int) := by omega
      obtain ⟨i5, hi, hsz⟩ := hi5
      have hcut : ∀ (A : Option Addr) (c : Nat), Aside0 (L ≤ c) → ∀ W : World, (Instr.slice 29 (.slice A L c) none (some (.int .i64 k)) none).run Try.prog W = .ok (.slice A k.toNat c) W := fun A c hc => cut_to (P := Try.prog) 29 5 .i64 Try.underlying29 hi A L c k hk0 (by omega) hc.out
      have HCUT := Aside0.mk hcut
      clear h hm hl hok hcut hi hsz hL
      go_enter Try.func5, Try.ntmps5
      go_wp2_with (first | (go_at_call 8; go_must (refine (K8.out _ B0.out).mono ?_; rintro e w2 ⟨rfl, hb2⟩; replace X0 := Aside0.mk ((hb2.out.block _ (blk_lt X0.out)).trans X0.out); replace B0 := Aside0.mk (B0.out.trans (hb2.out.mono B0.out.size)); obtain ⟨q0, q1, q2, q3, q4, q5, q6⟩ := rcells' X0.out)) | (go_at_call 11; go_must (refine (K11.out _ B0.out).mono ?_; rintro e w4 ⟨A2, m2, c2, rfl, hb2, hB2⟩; obtain rfl : m2 = L := hB2.out.n.trans HL.out.symm; replace B0 := Aside0.mk (B0.out.trans (hb2.out.mono B0.out.size)); have hsl := HCUT.out A2 c2 ⟨hB2.out.l⟩; clear X0)) | (go_at_call 13; (with_reducible refine (K13.out A2 c2 _ hB2.out).mono ?_); rintro e w5 ⟨u4, u5, u6, rfl, hb2, hRA⟩; have hB5 := Aside0.mk (hB2.out.below hb2.out); have BX := Aside0.mk (B0.out.trans (hb2.out.mono B0.out.size)); have Y0 := Aside0.mk (blk_new w5 (.cells #[.int .i64 0, .int .i64 0, .int .i64 0, .string ⟨#[]⟩, .slice u4.A u4.n u4.c, .slice u5.A u5.n u5.c, .slice u6.A u6.n u6.c] 26)); have B6 := Aside0.mk (fun o => below_alloc BX.out o); have hB6 := Aside0.mk (fun o o2 => hB5.out.below (below_alloc (below_alloc (Below.refl _ _) o) o2)); have R6 := Aside0.mk (fun o => hRA.out.below (below_alloc (Below.refl _ _) o)); clear hB2 hB5) | ((with_reducible refine gate_builtin (b := .append) (xs := #[.tmp 37, .tmp 38]) rfl ?_); at_builtin; go_must (refine ap8 (w5.heap.size + 1) rfl (.tmp 37) (.tmp 38) rfl (.slice (some ⟨w5.heap.size + 1, 0, none⟩) 0 0) [] (tb (tRec r)) A2 m2 c2 rfl rfl ?aO (hB6.out _ _).c ?aB ?aL ?_; (case aO => have hr0 := R_empty B8 5 (w5.alloc (.cells #[.int .i64 0, .int .i64 0, .int .i64 0, .string ⟨#[]⟩, .slice u4.A u4.n u4.c, .slice u5.A u5.n u5.c, .slice u6.A u6.n u6.c] 26)) (w5.heap.size + 1) (fun _ => True) (by simp) trivial; simpa using hr0); (case aB => simp); (case aL => exact (show ([] : List Int).length + _ ≤ _ by rw [List.length_nil]; omega)); intro v1 w7 ho hc; obtain ⟨A7, m7, c7, rfl⟩ := R_sl ho; have HO7 := Aside0.mk ho; have D7 : Aside0 (Below (w5.alloc (.cells #[.int .i64 0, .int .i64 0, .int .i64 0, .string ⟨#[]⟩, .slice u4.A u4.n u4.c, .slice u5.A u5.n u5.c, .slice u6.A u6.n u6.c] 26)).heap.size (w5.alloc (.cells #[.int .i64 0, .int .i64 0, .int .i64 0, .string ⟨#[]⟩, .slice u4.A u4.n u4.c, .slice u5.A u5.n u5.c, .slice u6.A u6.n u6.c] 26)) w7) := ⟨(below_alloc (Below.refl _ _) _).trans (hc.below (by simp) (fun k hk => by simp [Value.ownBlock] at hk; simp; omega))⟩; clear ho hc)) | ((with_reducible refine gate_builtin (b := .append) (xs := #[.tmp 39, .tmp 41]) rfl ?_); at_builtin; go_must (refine ap81 (w5.heap.size + 1) rfl (.tmp 39) (.tmp 41) rfl (.slice A7 m7 c7) ([] ++ tb (tRec r)) more rfl rfl HO7.out ?bB ?bL ?_; (case bB => have := D7.out.size; simpa using this); (case bL => have := HL.out; rw [List.nil_append]; omega); intro v1 w8 ho hc; obtain ⟨A8, m8, c8, rfl⟩ := R_sl ho; have HY8 := Aside0.mk (show BytesAt w8 A8 m8 c8 (tb (tRec r) ++ [more]) from (by have hq := Kd.R_reads' ho; rw [List.nil_append] at hq; exact ⟨hq.1, hq.2.1, by rw [hq.1]; exact hq.2.2⟩)); have D8 := Aside0.mk (D7.out.trans (hc.below D7.out.size (fun k hk => by have := Kd.R_base HO7.out k hk; simpa using this))); clear ho hc)) | (go_at_call 13; go_must (refine (K13'.out A8 m8 c8 _ HY8.out).mono ?_; rintro e w9 ⟨t4, t5, t6, rfl, hb2, hRA'⟩; have D9 := Aside0.mk (D8.out.trans (hb2.out.mono D8.out.size)); have Z0 := Aside0.mk (blk_new w9 (.cells #[.int .i64 0, .int .i64 0, .int .i64 0, .string ⟨#[]⟩, .slice t4.A t4.n t4.c, .slice t5.A t5.n t5.c, .slice t6.A t6.n t6.c] 26)); have D10 := Aside0.mk (fun o => below_alloc D9.out o); have R10 := Aside0.mk (fun o => hRA'.out.below (below_alloc (Below.refl _ _) o)))) | (go_at_call 9; go_must (refine (ans _).mono ?_; rintro e w11 ⟨rfl, hb4⟩; have D11 := Aside0.mk ((D10.out (.cells #[.int .i64 0, .int .i64 0, .int .i64 0, .string ⟨#[]⟩, .slice t4.A t4.n t4.c, .slice t5.A t5.n t5.c, .slice t6.A t6.n t6.c] 26)).trans (hb4.out.mono (D10.out (.cells #[.int .i64 0, .int .i64 0, .int .i64 0, .string ⟨#[]⟩, .slice t4.A t4.n t4.c, .slice t5.A t5.n t5.c, .slice t6.A t6.n t6.c] 26)).size)); have Y11 := Aside0.mk ((D11.out.block _ (blk_lt Y0.out)).trans Y0.out); have Z11 := Aside0.mk ((hb4.out.block _ (blk_lt Z0.out)).trans Z0.out); have RX := Aside0.mk ((R6.out (.cells #[.int .i64 0, .int .i64 0, .int .i64 0, .string ⟨#[]⟩, .slice u4.A u4.n u4.c, .slice u5.A u5.n u5.c, .slice u6.A u6.n u6.c] 26)).below D11.out); have RY := Aside0.mk ((R10.out (.cells #[.int .i64 0, .int .i64 0, .int .i64 0, .string ⟨#[]⟩, .slice t4.A t4.n t4.c, .slice t5.A t5.n t5.c, .slice t6.A t6.n t6.c] 26)).below hb4.out); obtain ⟨q0, q1, q2, q3, q4, q5, q6⟩ := rcells' (r := rc0) Y11.out; obtain ⟨y0, y1, y2, y3, y4, y5, y6⟩ := rcells' (r := rc0) Z11.out; simp only [rc0] at q0 q1 q2 q3 y0 y1 y2 y3)) | (go_at_call 14; (with_reducible refine (K14.out u4 u5 u6 _ RX.out).mono ?_); rintro e w12 ⟨b, rfl, hb, hb5⟩; obtain rfl : b = true := (by have h9 := hb.out.2; first | exact h9 rfl | exact h9 trivial); have D12 := Aside0.mk (D11.out.trans (hb5.out.mono D11.out.size)); have Z12 := Aside0.mk ((hb5.out.block _ (blk_lt Z11.out)).trans Z11.out); have RY2 := Aside0.mk (RY.out.below hb5.out); obtain ⟨y0, y1, y2, y3, y4, y5, y6⟩ := rcells' (r := rc0) Z12.out; simp only [rc0] at y0 y1 y2 y3; clear RX) | (go_at_call 14; (with_reducible refine (K14.out t4 t5 t6 _ RY2.out).mono ?_); rintro e w13 ⟨b, rfl, hb, hb6⟩; obtain rfl : b = true := (by have h9 := hb.out.2; first | exact h9 rfl | exact h9 trivial)))
      go_ret
      exact ⟨rfl, (B6.out _).trans (((D12.out.trans (hb6.out.mono D12.out.size))).mono (B6.out _).size)⟩
    · have hcode : (if tbad (tRec r) = true then (2 : Int) else 4) = 2 ∨ (if tbad (tRec r) = true then (2 : Int) else 4) = 4 := by split <;> simp
      obtain ⟨code, hc⟩ : ∃ code, code = (if tbad (tRec r) = true then (2 : Int) else 4) := ⟨_, rfl⟩
      rw [← hc] at hcode
      have K11 : Aside0 (∀ (w2 : World), Below w.heap.size w w2 → Calls Try.prog 11 #[.agg #[.int .i64 r.kind, .int .i64 r.id, .int .i64 r.size, .string r.key, .slice v4.A v4.n v4.c, .slice v5.A v5.n v5.c, .slice v6.A v6.n v6.c]] w2 (Enc0 code w2)) := ⟨fun w2 hb => (rencode_at r v4 v5 v6 w2 (h.below hb) hl).mono fun e w' h => by rw [hc]; exact enc_no hok h⟩
      clear h hm hl hok hc
      rcases hcode with rfl | rfl
      all_goals
        go_enter Try.func5, Try.ntmps5
        go_wp2_with (first | (go_at_call 8; go_must (refine (K8.out _ B0.out).mono ?_; rintro e w2 ⟨rfl, hb2⟩; replace X0 := Aside0.mk ((hb2.out.block _ (blk_lt X0.out)).trans X0.out); replace B0 := Aside0.mk (B0.out.trans (hb2.out.mono B0.out.size)); obtain ⟨q0, q1, q2, q3, q4, q5, q6⟩ := rcells' X0.out)) | (go_at_call 11; go_must (refine (K11.out _ B0.out).mono ?_; rintro e w4 ⟨rfl, hb2⟩; replace B0 := Aside0.mk (B0.out.trans (hb2.out.mono B0.out.size)))) | (go_at_call 9; go_must (refine (ans _).mono ?_; rintro e w8 ⟨rfl, hb4⟩; have B8' := Aside0.mk (B0.out.trans (hb4.out.mono B0.out.size)))))
        go_ret
        exact ⟨rfl, B8'.out⟩
end Go.Proofs.Ytcpekifbbjnjmaa
