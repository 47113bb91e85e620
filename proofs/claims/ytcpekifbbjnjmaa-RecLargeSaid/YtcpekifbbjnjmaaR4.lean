/- RecLarge: a record that would have too many bytes has none. -/
import Derived.Test.YtcpekifbbjnjmaaR2
set_option linter.unusedVariables false
namespace Go.Proofs.Ytcpekifbbjnjmaa
open Go.RowKit Go.Proofs.YtcpekifbbjnjmaaW.PrintWords Go.Proofs.YtcpekifbbjnjmaaW.PrintLast Go.Proofs.YtcpekifbbjnjmaaW.PrintMore Go.Proofs.Ytcpekifbbjnjmaa.PRecBack
def sN (i : Nat) : S41 := ⟨i, 0, [1, 2, 3, 4, 5, 6, 7]⟩
def lN (k : Nat) : List S41 := (List.range k).map sN
theorem lN_succ (k : Nat) : lN (k + 1) = lN k ++ [sN k] := by simp [lN, List.range_succ]
theorem lN_len (k : Nat) : (lN k).length = k := by simp [lN]
def rN (k : Nat) : Rc := ⟨1, 1, 0, ⟨#[]⟩, lN k, [], []⟩
theorem tN (i : Nat) : (tb (tStripe (sN i))).length = 37 := by
  rw [stripe_len]
  simp [sN, tInts, tb, Tok.b, be_length, word]
theorem flatN : ∀ k : Nat, (tb ((lN k).flatMap tStripe)).length = 37 * k
  | 0 => rfl
  | k + 1 => by
    rw [lN_succ, List.flatMap_append, tb_append, List.length_append, flatN k]
    simp only [List.flatMap_cons, List.flatMap_nil, List.append_nil, tN]
    omega
theorem lenN (k : Nat) : (tb (tRec (rN k))).length = 14 + 37 * k := by
  rw [rec_len, key_len, obj_len]
  have h1 : (tb (tStripes (lN k))).length = 1 + 37 * k := by
    unfold tStripes
    rw [tb_cons, List.length_append, num_len, flatN]
  have h2 : (rN k).stripes = lN k := rfl
  have e0 : (⟨#[]⟩ : ByteArray).size = 0 := rfl
  rw [h2, h1]
  simp [rN, tInts, tb, Tok.b, be_length, e0]
  omega
theorem badN (k : Nat) (hk : k ≤ 1000) : tbad (tRec (rN k)) = decide (255 < k) := by
  have e0 : (⟨#[]⟩ : ByteArray).size = 0 := rfl
  have hs : ∀ i, i ≤ 1000 → tbad (tStripe (sN i)) = false := fun i hi => by
    simp [sN, tStripe, tInts, tbad, Tok.bad, word]
    omega
  have hf : tbad ((lN k).flatMap tStripe) = false := by
    unfold tbad
    rw [List.any_eq_false]
    intro t ht
    obtain ⟨x, hx, ht⟩ := List.mem_flatMap.1 ht
    unfold lN at hx
    obtain ⟨i, hi, rfl⟩ := List.mem_map.1 hx
    have h1 := hs i (by have := List.mem_range.1 hi; omega)
    unfold tbad at h1
    rw [List.any_eq_false] at h1
    exact h1 t ht
  have h2 : tbad (tStripes (lN k)) = decide (255 < k) := by
    unfold tStripes
    rw [tbad_cons, hf, lN_len, Bool.eq_iff_iff]
    simp [Tok.bad]
    omega
  unfold tRec
  simp only [tbad_cons, tbad_append]
  rw [show (rN k).stripes = lN k from rfl, h2]
  simp [rN, tKey, tObjects, tInts, tbad, Tok.bad, word, e0]
theorem okN (k : Nat) (hk : k ≤ 1000) : OkRec (rN k) ↔ k ≤ 221 := by
  unfold OkRec
  rw [badN k hk, lenN]
  simp
  omega
theorem R_lit7 (W : World) (base : Nat) (hb : base ≤ W.heap.size) : I64.R 3 (W.alloc (.cells #[.int .i64 1, .int .i64 2, .int .i64 3, .int .i64 4, .int .i64 5, .int .i64 6, .int .i64 7] 3)) base (fun k => W.heap.size ≤ k) (.slice (some ⟨W.heap.size, 0, none⟩) 7 7) [1, 2, 3, 4, 5, 6, 7] := by
  refine Kd.R_of_own (enc := Value.int .i64) ?_ (fun k hk => ?_)
  · exact World.ownsRow_lit (base := base) (e := 3) (size := 1) W #[.int .i64 1, .int .i64 2, .int .i64 3, .int .i64 4, .int .i64 5, .int .i64 6, .int .i64 7] 7 hb (by simp [maxLen]) (by simp)
  · have : W.heap.size = k := by simpa [Value.ownBlock] using hk
    omega
set_option maxHeartbeats 8000000 in
set_option maxRecDepth 100000 in
theorem large_calls (n : Int) (w : World) (h0 : 0 ≤ n) (h1 : n < 256) : Calls Try.prog 7 #[.int .u8 n] w (Law w) := by
  obtain ⟨K, hK⟩ : ∃ K : Nat, n + 100 = (K : Int) := ⟨(n + 100).toNat, by omega⟩
  have hK1 : 100 ≤ K := by omega
  have hK2 : K ≤ 355 := by omega
  go_enter Try.func7, Try.ntmps7
  go_wp2_with fail
  go_loopw [5] (fun v w' => ∃ k : Nat, v = .int .i64 k ∧ Aside0 (k ≤ K) ∧ Aside0 (∃ A m c, w'.heap[w.heap.size]? = some (.cells #[.int .i64 1, .int .i64 1, .int .i64 0, .string ⟨#[]⟩, .slice A m c, .slice none 0 0, .slice none 0 0] 26 (0, 0)) ∧ k41.R 41 w' (w.heap.size + 1) (fun _ => True) (.slice A m c) (lN k)) ∧ Aside0 (Below w.heap.size w w') ∧ Aside0 (w.heap.size + 1 ≤ w'.heap.size)) (fun v _ => K - (intOf v).toNat)
  case atStart => exact ⟨0, rfl, ⟨Nat.zero_le _⟩, ⟨none, 0, 0, blk_new _ _, Kd.R_nil _ _ _ _ _⟩, ⟨below_alloc (Below.refl _ _) _⟩, ⟨by simp⟩⟩
  case round =>
    obtain ⟨k, rfl, HK, HR, HB, HS⟩ := hrel
    obtain ⟨A, m, c, hblk, hR⟩ := HR.out
    have q4 := blk_cell hblk 4
    have qf := blk_frozen hblk 4
    have hgl := blk_lt hblk
    have HBLK := Aside0.mk hblk
    have HRR := Aside0.mk hR
    clear hblk hR HR
    by_cases hlt : k < K
    · have hd : decide (k < K) = true := decide_eq_true hlt
      obtain ⟨W7, hW7⟩ : ∃ W7, W7 = wr.alloc (.cells #[.int .i64 1, .int .i64 2, .int .i64 3, .int .i64 4, .int .i64 5, .int .i64 6, .int .i64 7] 3) := ⟨_, rfl⟩
      have HM : Aside0 (k41.M W7 (w.heap.size + 1) (fun j => wr.heap.size ≤ j) (sN k) [.int .i64 k, .int .i64 0, .slice (some ⟨wr.heap.size, 0, none⟩) 7 7]) := ⟨by rw [hW7]; exact k41_mkM _ _ _ (sN k) (R_lit7 wr _ HS.out)⟩
      have HO7 : Aside0 (k41.R 41 W7 (w.heap.size + 1) (fun _ => True) (.slice A m c) (lN k)) := ⟨by rw [hW7]; exact Kd.R_alloc HRR.out _⟩
      have HBLK7 : Aside0 (W7.heap[w.heap.size]? = some (.cells #[.int .i64 1, .int .i64 1, .int .i64 0, .string ⟨#[]⟩, .slice A m c, .slice none 0 0, .slice none 0 0] 26 (0, 0))) := ⟨by rw [hW7, Below.heap_alloc _ _ _ (blk_lt HBLK.out)]; exact HBLK.out⟩
      have HLT := Aside0.mk (fun j => Kd.R_lt HRR.out j)
      have B7 : Aside0 (Below w.heap.size w W7) := ⟨by rw [hW7]; exact below_alloc HB.out _⟩
      have S7 : Aside0 (w.heap.size + 1 ≤ W7.heap.size) := ⟨by rw [hW7]; have := HS.out; simp; omega⟩
      have HW7 := Aside0.mk hW7
      clear hW7 hgl
      go_wp2_with ((with_reducible refine gate_builtin (b := .append) (xs := #[.tmp 19, .tmp 23]) rfl ?_); at_builtin; rw [← HW7.out]; go_must (refine apT (w.heap.size + 1) rfl (.tmp 19) (.tmp 23) rfl (.slice A m c) (lN k) (sN k) (.int .i64 k) (.int .i64 0) (.slice (some ⟨wr.heap.size, 0, none⟩) 7 7) wr.heap.size rfl ?aX HM.out HLT.out HO7.out S7.out ?aL ?_; (case aX => rw [HW7.out]; simp [Act.eval]); (case aL => rw [lN_len]; omega); intro v1 w3 ho hc; rw [← lN_succ] at ho; obtain ⟨A1, m1, c1, rfl⟩ := R_sl' ho; have hb3 := hc.blk HBLK7.out (fun e => (Kd.R_ne HO7.out HBLK7.out (by decide)) e.symm); have d4 := blk_cell hb3 4; have df := blk_frozen hb3 4; have HB3 := Aside0.mk hb3; have HO3 := Aside0.mk ho; have HC3 := Aside0.mk hc; clear ho hc hb3))
      go_roundw
      case rel =>
        refine ⟨k + 1, by go_num, ⟨hlt⟩, ⟨A1, m1, c1, blk_set HB3.out 4 _, ?_⟩, ⟨?_⟩, ⟨?_⟩⟩
        · exact Kd.R_set HO3.out HB3.out (by simp [k41, Kd.iso, Kd.pair, Kd.slice, Kd.int, Kd.scalar]) 4 _
        · exact (B7.out.trans (HC3.out.below B7.out.size (fun j hj => by have := Kd.R_base HO7.out j hj; omega))).setCell (Nat.le_refl _) _
        · have h1 := S7.out
          have h2 := HC3.out.size
          have h3 : (w3.setCell ⟨w.heap.size, 4, none⟩ (.slice A1 m1 c1)).heap.size = w3.heap.size := by simp
          omega
      case measure => simp [intOf]; omega
    · have hkK : k = K := by have := HK.out; omega
      subst hkK
      have hd : decide (k < k) = false := decide_eq_false (by omega)
      obtain ⟨q0, q1, q2, q3, q4', q5, q6⟩ := rcells' (r := ⟨1, 1, 0, ⟨#[]⟩, [], [], []⟩) (v4 := ⟨A, m, c⟩) (v5 := sl0) (v6 := sl0) HBLK.out
      simp only [sl0] at q0 q1 q2 q3 q5 q6
      have RA : Aside0 (RecAt wr (rN k) ⟨A, m, c⟩ sl0 sl0) := ⟨by
        have hq := Kd.R_reads' HRR.out
        exact ⟨hq.1, hq.2.1, by rw [hq.1]; exact hq.2.2, rfl, Nat.le_refl _, Kd.C_nil _ _, rfl, Nat.le_refl _, Kd.C_nil _ _⟩⟩
      have KE : Aside0 (Calls Try.prog 10 #[.agg #[.int .i64 1, .int .i64 1, .int .i64 0, .string ⟨#[]⟩, .slice A m c, .slice none 0 0, .slice none 0 0]] wr (EncTo (rN k) wr)) := ⟨encode_at (rN k) ⟨A, m, c⟩ sl0 sl0 wr RA.out (by rw [lenN]; omega)⟩
      clear RA HS HRR q4' HBLK hgl
      by_cases hk5 : 255 < k
      · have KE2 : Aside0 (Calls Try.prog 10 #[.agg #[.int .i64 1, .int .i64 1, .int .i64 0, .string ⟨#[]⟩, .slice A m c, .slice none 0 0, .slice none 0 0]] wr (Enc0 2 wr)) := ⟨KE.out.mono fun e w' h => by
          have h2 := enc_no (by rw [okN k (by omega)]; omega) h
          rw [badN k (by omega), decide_eq_true hk5] at h2
          exact h2⟩
        clear KE
        go_wp2_with (first | (go_at_call 10; go_must (refine KE2.out.mono ?_; rintro e w4 ⟨rfl, hb2⟩; have B4 := Aside0.mk (HB.out.trans (hb2.out.mono HB.out.size)))) | (go_at_call 9; go_must (refine (ans _).mono ?_; rintro e w8 ⟨rfl, hb4⟩)))
        go_ret
        exact ⟨rfl, B4.out.trans (hb4.out.mono B4.out.size)⟩
      · by_cases hk2 : 221 < k
        · have hg : 8192 < 14 + 37 * (k : Int) := by omega
          have hg1 : decide (8192 < 14 + 37 * (k : Int)) = true := decide_eq_true hg
          have KE2 : Aside0 (Calls Try.prog 10 #[.agg #[.int .i64 1, .int .i64 1, .int .i64 0, .string ⟨#[]⟩, .slice A m c, .slice none 0 0, .slice none 0 0]] wr (Enc0 4 wr)) := ⟨KE.out.mono fun e w' h => by
            have h2 := enc_no (by rw [okN k (by omega)]; omega) h
            rw [badN k (by omega), decide_eq_false hk5] at h2
            exact h2⟩
          clear KE
          go_wp2_with (first | (go_at_call 10; go_must (refine KE2.out.mono ?_; rintro e w4 ⟨rfl, hb2⟩; have B4 := Aside0.mk (HB.out.trans (hb2.out.mono HB.out.size)))) | (go_at_call 9; go_must (refine (ans _).mono ?_; rintro e w8 ⟨rfl, hb4⟩)))
          go_ret
          exact ⟨rfl, B4.out.trans (hb4.out.mono B4.out.size)⟩
        · have hg : ¬ 8192 < 14 + 37 * (k : Int) := by omega
          have hg1 : decide (8192 < 14 + 37 * (k : Int)) = false := decide_eq_false hg
          have KE2 : Aside0 (Calls Try.prog 10 #[.agg #[.int .i64 1, .int .i64 1, .int .i64 0, .string ⟨#[]⟩, .slice A m c, .slice none 0 0, .slice none 0 0]] wr (fun e w' => ∃ A m c, e = .returned (.tuple #[.slice A m c, .int .i64 0]) ∧ Aside0 (Below wr.heap.size wr w') ∧ decide (0 < m) = true)) := ⟨KE.out.mono fun e w' h => by
            obtain ⟨A9, m9, c9, rfl, hb9, hB9⟩ := enc_yes (by rw [okN k (by omega)]; omega) h
            refine ⟨A9, m9, c9, rfl, hb9, decide_eq_true ?_⟩
            rw [hB9.out.n, lenN]
            omega⟩
          clear KE
          go_wp2_with (first | (go_at_call 10; go_must (refine KE2.out.mono ?_; rintro e w4 ⟨A9, m9, c9, rfl, hb2, hm9⟩; have B4 := Aside0.mk (HB.out.trans (hb2.out.mono HB.out.size)))) | (go_at_call 9; go_must (refine (ans _).mono ?_; rintro e w8 ⟨rfl, hb4⟩)))
          go_ret
          exact ⟨rfl, B4.out.trans (hb4.out.mono B4.out.size)⟩
end Go.Proofs.Ytcpekifbbjnjmaa
