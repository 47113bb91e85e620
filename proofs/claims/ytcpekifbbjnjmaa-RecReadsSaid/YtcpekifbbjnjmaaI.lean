/- The reader in memory; (*reader).take, num, word, key. -/
import Derived.Test.YtcpekifbbjnjmaaH
set_option linter.unusedVariables false
namespace Go.Proofs.Ytcpekifbbjnjmaa
open Go.RowKit Go.Proofs.YtcpekifbbjnjmaaW.PrintWords Go.Proofs.YtcpekifbbjnjmaaW.PrintLast Go.Proofs.YtcpekifbbjnjmaaW.PrintMore Go.Proofs.Ytcpekifbbjnjmaa.PRecBack
theorem hi5 : ∃ i, Try.prog.info? 5 = some i ∧ i.size = 1 := by
  have h := inf5
  obtain ⟨i, hi, h2⟩ := Option.map_eq_some_iff.1 h
  simp only [Prod.mk.injEq] at h2
  exact ⟨i, hi, h2.2.1⟩
/-- A reader in memory: what is left of the bytes, and whether it went wrong. -/
structure Rd (w0 W : World) (g : Nat) (s : St) : Prop where
  ge : w0.heap.size ≤ g
  bel : Below w0.heap.size w0 W
  byt : Byt s.1
  mem : ∃ A m c, m = s.1.length ∧ m ≤ c ∧ W.heap[g]? = some (.cells #[.slice A m c, .bool s.2] 57 (0, 0)) ∧ B8.C w0 A m s.1
theorem Rd.later {w0 W W' : World} {g : Nat} {s : St} {S : Nat → Prop} (h : Rd w0 W g s) (hc : Ch W W' S) (hn : ¬ S g) (hb : ∀ k, S k → w0.heap.size ≤ k) : Rd w0 W' g s := by
  obtain ⟨hg, hb0, hbt, A, m, c, hm, hmc, hblk, hC⟩ := h
  exact ⟨hg, hb0.trans (hc.below hb0.size hb), hbt, A, m, c, hm, hmc, hc.blk hblk hn, hC⟩
def Took (w0 : World) (g : Nat) (r : St × List Int) (w : World) (e : Ending) (w' : World) : Prop :=
  ∃ A m c, e = .returned (.slice A m c) ∧ m = r.2.length ∧ m ≤ c ∧ B8.C w0 A m r.2 ∧ Byt r.2 ∧ Rd w0 w' g r.1 ∧ Ch w w' (fun k => k = g)
set_option maxHeartbeats 2000000 in
theorem take_calls (w0 W : World) (g : Nat) (s : St) (n : Int) (h0 : 0 ≤ n) (h : Rd w0 W g s) :
    Calls Try.prog 45 #[.pointer (some ⟨g, 0, none⟩), .int .i64 n] W (Took w0 g (takeP s n) W) := by
  obtain ⟨hg, hb, hbt, A, m, c, hm, hmc, hblk, hC⟩ := h
  obtain ⟨bs, bad⟩ := s
  simp only at hm hblk hC hbt
  have c0 : W.cell? ⟨g, 0, none⟩ = some (.slice A m c) := blk_cell hblk 0
  have c1 : W.cell? ⟨g, 1, none⟩ = some (.bool bad) := blk_cell hblk 1
  have f0 : W.frozen? ⟨g, 0, none⟩ = false := blk_frozen hblk 0
  have f1 : W.frozen? ⟨g, 1, none⟩ = false := blk_frozen hblk 1
  have HB := Aside0.mk hb
  have HBT := Aside0.mk hbt
  have HM := Aside0.mk hm
  have HK := Aside0.mk hblk
  have HC := Aside0.mk hC
  have HG := Aside0.mk hg
  clear hb hbt hm hblk hC hg
  have fin : Took w0 g ((bs, true), []) W (.returned (.slice none 0 0)) (W.setCell ⟨g, 1, none⟩ (.bool true)) :=
    ⟨none, 0, 0, rfl, rfl, Nat.le_refl _, Kd.C_nil _ _, byt_nil, ⟨HG.out, HB.out.setCell HG.out _, HBT.out, A, m, c, HM.out, hmc, blk_set HK.out 1 _, HC.out⟩, (Ch.refl W (fun k => k = g)).setCell (p := ⟨g, 1, none⟩) (.inl rfl) _⟩
  have FIN := Aside0.mk fin
  clear fin
  cases bad with
  | true =>
    have e : Aside0 (takeP (bs, true) n = ((bs, true), [])) := ⟨by unfold takeP; rw [if_pos (.inl rfl)]⟩
    go_enter Try.func45, Try.ntmps45
    go_wp2_with fail
    go_ret
    rw [e.out]
    exact FIN.out
  | false =>
    by_cases hlt : (m : Int) < n
    · have hd : decide ((m : Int) < n) = true := decide_eq_true hlt
      have e : Aside0 (takeP (bs, false) n = ((bs, true), [])) := ⟨by unfold takeP; rw [if_pos (.inr (by have := HM.out; show (bs.length : Int) < n; omega))]⟩
      go_enter Try.func45, Try.ntmps45
      go_wp2_with fail
      go_ret
      rw [e.out]
      exact FIN.out
    · have hd : decide ((m : Int) < n) = false := decide_eq_false hlt
      have hnm : n.toNat ≤ bs.length := by have := HM.out; omega
      have e : Aside0 (takeP (bs, false) n = ((bs.drop n.toNat, false), bs.take n.toNat)) := ⟨by unfold takeP; rw [if_neg (by have := HM.out; simp; omega)]⟩
      obtain ⟨i, hi, hsz⟩ := hi5
      have k1 := cut_to (P := Try.prog) 29 5 .i64 Try.underlying29 hi A m c n h0 (by omega) hmc
      have k2 := cut_from (P := Try.prog) 29 5 .i64 Try.underlying29 hi 1 hsz A m c n h0 (by omega)
      have hC1 := HC.out
      rw [HM.out] at hC1
      have D1 := Kd.C_take (m := n.toNat) hC1 hnm
      have D2 := Kd.C_drop (c := c) hC1 hnm (by have := HM.out; omega)
      rw [show B8.sz = 1 from rfl] at D2
      obtain ⟨A2, hA2⟩ : ∃ A2, A2 = (if c = n.toNat then A else A.map (·.add (n.toNat * 1))) := ⟨_, rfl⟩
      rw [← hA2] at k2 D2
      have L1 : (bs.take n.toNat).length = n.toNat := by rw [List.length_take]; omega
      have L2 : (bs.drop n.toNat).length = m - n.toNat := by rw [List.length_drop]; have := HM.out; omega
      rw [L1] at D1
      rw [L2] at D2
      have DD1 := Aside0.mk D1
      have DD2 := Aside0.mk D2
      have LL1 := Aside0.mk L1
      have LL2 := Aside0.mk L2
      have HNM := Aside0.mk hnm
      clear hi hsz hA2 hC1 D1 D2 L1 L2 hnm
      go_enter Try.func45, Try.ntmps45
      go_wp2_with fail
      go_ret
      rw [e.out]
      exact ⟨A, n.toNat, c, rfl, LL1.out.symm, by have := HNM.out; have := HM.out; omega, DD1.out, HBT.out.take _, ⟨HG.out, HB.out.setCell HG.out _, HBT.out.drop _, A2, m - n.toNat, c - n.toNat, LL2.out.symm, by omega, blk_set HK.out 0 _, DD2.out⟩, (Ch.refl W (fun k => k = g)).setCell (p := ⟨g, 0, none⟩) (.inl rfl) _⟩
theorem takeP_len (s : St) (n : Int) : (takeP s n).2.length ≤ n.toNat := by
  unfold takeP
  split
  · simp
  · rw [List.length_take]
    omega
theorem val_32 (bs : List Int) (hb : Byt bs) (hl : bs.length ≤ 4) : 0 ≤ val bs ∧ val bs < 4294967296 := by
  obtain ⟨h1, h2⟩ := val_lt bs hb
  have h3 : (2 : Int) ^ (8 * bs.length) ≤ 2 ^ 32 := by
    have := Nat.pow_le_pow_right (n := 2) (by omega) (show 8 * bs.length ≤ 32 by omega)
    exact_mod_cast this
  exact ⟨h1, Int.lt_of_lt_of_le h2 h3⟩
theorem get_any (A : Option Addr) (m c : Nat) (l : List Int) (w : World) (hm : m = l.length) (hc : m ≤ c) (hC : B8.C w A m l) (hb : Byt l) (hl : l.length ≤ 4) :
    Calls Try.prog 44 #[.slice A m c] w fun e w' => ∃ v, e = .returned (.int .u64 v) ∧ Aside0 (v = val l) ∧ 0 ≤ v ∧ v < 4294967296 ∧ Aside0 (Below w.heap.size w w') := by
  subst hm
  refine (hash_Get.calls (l.length + 1) A c l (val l) w hC hc (get_f l hb (by omega))).mono ?_
  rintro e w' ⟨rfl, h⟩
  exact ⟨_, rfl, ⟨rfl⟩, (val_32 l hb hl).1, (val_32 l hb hl).2, ⟨h.below⟩⟩
def Num (w0 : World) (g : Nat) (r : St × Int) (w : World) (e : Ending) (w' : World) : Prop :=
  e = .returned (.int .i64 r.2) ∧ 0 ≤ r.2 ∧ r.2 < 4294967296 ∧ Rd w0 w' g r.1 ∧ Ch w w' (fun k => k = g)
set_option maxHeartbeats 2000000 in
theorem gnum_calls (w0 W : World) (g : Nat) (s : St) (z : Int) (hz : z = 1 ∨ z = 2 ∨ z = 4) (h : Rd w0 W g s) :
    Calls Try.prog 25 #[.pointer (some ⟨g, 0, none⟩), .int .i64 z] W (Num w0 g (numP s z) W) := by
  have hgt := h.ge
  have K := Aside0.mk (take_calls w0 W g s z (by omega) h)
  have HL : Aside0 ((takeP s z).2.length ≤ 4) := ⟨by have := takeP_len s z; omega⟩
  have HG := Aside0.mk hgt
  clear h hz hgt
  go_enter Try.func25, Try.ntmps25
  go_wp2_with (first | (go_at_call 45; go_must (refine K.out.mono ?_; rintro e w1 ⟨A, m, c, rfl, h1, h2, h3, h4, h5, h6⟩; have H1 := Aside0.mk h1; have H2 := Aside0.mk h2; have H3 := Aside0.mk h3; have H4 := Aside0.mk h4; have H5 := Aside0.mk h5; have H6 := Aside0.mk h6; clear h1 h2 h3 h4 h5 h6)) | (go_at_call 44; go_must (refine (get_any A m c _ _ H1.out H2.out (Kd.C_below H3.out H5.out.bel) H4.out HL.out).mono ?_; rintro e w2 ⟨v, rfl, hv, hv0, hv1, hb⟩)))
  go_ret
  have e : (numP s z).2 = v := hv.out.symm
  refine ⟨by rw [e]; rfl, by rw [e]; exact hv0, by rw [e]; exact hv1, ?_, ?_⟩
  · exact H5.out.later (Ch.of_below hb.out (fun _ => False)) (fun h => h) (fun _ h => h.elim)
  · exact H6.out.then_ (Ch.of_below hb.out (fun _ => False)) (fun _ h => h.elim)
theorem gnum1_calls (w0 W : World) (g : Nat) (s : St) (h : Rd w0 W g s) : Calls Try.prog 25 #[.pointer (some ⟨g, 0, none⟩), .int .i64 1] W (Num w0 g (numP s 1) W) := gnum_calls w0 W g s 1 (by simp) h
theorem gnum2_calls (w0 W : World) (g : Nat) (s : St) (h : Rd w0 W g s) : Calls Try.prog 25 #[.pointer (some ⟨g, 0, none⟩), .int .i64 2] W (Num w0 g (numP s 2) W) := gnum_calls w0 W g s 2 (by simp) h
set_option maxHeartbeats 1000000 in
theorem gword_calls (w0 W : World) (g : Nat) (s : St) (h : Rd w0 W g s) : Calls Try.prog 26 #[.pointer (some ⟨g, 0, none⟩)] W (Num w0 g (wordP s) W) := by
  have K := Aside0.mk (gnum_calls w0 W g s 4 (by simp) h)
  clear h
  go_enter Try.func26, Try.ntmps26
  go_wp2_with (go_at_call 25; go_must (refine K.out.mono ?_; rintro e w1 ⟨rfl, h1, h2, h3, h4⟩; have H1 := Aside0.mk h1; have H2 := Aside0.mk h2; have H3 := Aside0.mk h3; have H4 := Aside0.mk h4; clear h1 h2 h3 h4))
  go_ret
  exact ⟨rfl, H1.out, H2.out, H3.out, H4.out⟩
def Key (w0 : World) (g : Nat) (r : St × ByteArray) (w : World) (e : Ending) (w' : World) : Prop :=
  e = .returned (.string r.2) ∧ Rd w0 w' g r.1 ∧ Ch w w' (fun k => k = g)
set_option maxHeartbeats 2000000 in
theorem gkey_calls (w0 W : World) (g : Nat) (s : St) (h : Rd w0 W g s) : Calls Try.prog 27 #[.pointer (some ⟨g, 0, none⟩)] W (Key w0 g (keyP s) W) := by
  have K := Aside0.mk (gnum1_calls w0 W g s h)
  clear h
  go_enter Try.func27, Try.ntmps27
  go_wp2_with (first | (go_at_call 25; go_must (refine K.out.mono ?_; rintro e w1 ⟨rfl, h1, h2, h3, h4⟩; have H1 := Aside0.mk h1; have H3 := Aside0.mk h3; have H4 := Aside0.mk h4; clear h1 h2 h3 h4)) | (go_at_call 45; go_must (refine (take_calls w0 _ g _ _ H1.out H3.out).mono ?_; rintro e w2 ⟨A, m, c, rfl, j1, j2, j3, j4, j5, j6⟩; have J3 := Aside0.mk (Kd.C_below j3 j5.bel); have J5 := Aside0.mk j5; have J6 := Aside0.mk j6; have hcv := Kd.C_string Try.underlying29 Try.underlying5 Try.underlying9 (src := 29) (dst := 9) (c := c) J3.out; clear j1 j2 j3 j4 j5 j6)))
  go_ret
  exact ⟨rfl, J5.out, H4.out.then_ J6.out (fun _ h => .inl h)⟩
end Go.Proofs.Ytcpekifbbjnjmaa
