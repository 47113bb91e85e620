/- (*Tape).write, Append, Replace. -/
import Derived.Test.YtgehempmccponaaC
set_option linter.unusedVariables false
namespace Go.Proofs.Ytgehempmccponaa
open Go.RowKit Go.Proofs.YtgehempmccponaaW.PrintWords Go.Proofs.YtgehempmccponaaW.PrintLast Go.Proofs.YtgehempmccponaaW.PrintMore
def turnF (t : Tp) (n : Nat) (bs : List Int) (swap : Bool) : Tp × Bool := if (t.side n).lost then (t, true) else oneF t n bs swap
def writeF (t : Tp) (bs : List Int) (swap : Bool) : Tp × Int :=
  if t.down then (t, 9) else if t.s0.lost && t.s1.lost then (t, 8)
  else if (turnF t 0 bs swap).2 = false then ((turnF t 0 bs swap).1, 9)
  else if (turnF (turnF t 0 bs swap).1 1 bs swap).2 = false then ((turnF (turnF t 0 bs swap).1 1 bs swap).1, 9)
  else ((turnF (turnF t 0 bs swap).1 1 bs swap).1, 0)
/-- What a write on a side keeps. -/
theorem oneF_keeps (t : Tp) (n : Nat) (bs : List Int) (swap : Bool) (t1 : Tp) (b1 : Bool) (h : oneF t n bs swap = (t1, b1)) (hn : n = 0) (h0 : -1 ≤ t.fuse) (h1 : t.fuse ≤ 9223372036854775807) :
    t1.s1.lost = t.s1.lost ∧ t1.s1.b.length = t.s1.b.length ∧ -1 ≤ t1.fuse ∧ t1.fuse ≤ 9223372036854775807 := by
  subst hn
  unfold oneF Tp.put Tp.side at h
  split at h <;> (simp at h; obtain ⟨rfl, _⟩ := h; simp; try (first | exact ⟨h0, h1⟩ | (split <;> omega)))
theorem TapeM.mono {w : World} {base g : Nat} {ok ok' : Nat → Prop} {t : Tp} (h : TapeM w base ok g t) (hn : ∀ k, ok k → ok' k) : TapeM w base ok' g t := by
  obtain ⟨v, hg, hr⟩ := h
  exact ⟨v, hg, hr.mono hn⟩
def WriteTo (g : Nat) (r : Tp × Int) (w : World) (base : Nat) (ok : Nat → Prop) (e : Ending) (w' : World) : Prop :=
  e = .returned (.int .i64 r.2) ∧ TapeM w' base (fun k => ok k ∨ w.heap.size ≤ k) g r.1 ∧ Ch w w' (fun k => k = g)
set_option maxHeartbeats 2000000 in
theorem write_calls (g : Nat) (t : Tp) (A : Option Addr) (c : Nat) (bs : List Int) (swap : Bool) (w : World) (base : Nat) (ok : Nat → Prop)
    (ht : TapeM w base ok g t) (hA : ∀ w', Ch w w' (fun k => k = g) → B8.C w' A bs.length bs) (hs1 : t.s0.b.length ≤ 1000000) (hs2 : t.s1.b.length ≤ 1000000) (hs5 : -1 ≤ t.fuse) (hs6 : t.fuse ≤ 9223372036854775807) (hl : bs.length ≤ 1000000) (hb : base ≤ w.heap.size) :
    Calls Try.prog 17 #[.pointer (some ⟨g, 0, none⟩), .slice A bs.length c, .bool swap] w (WriteTo g (writeF t bs swap) w base ok) := by
  have HT := Aside0.mk ht
  obtain ⟨v, hg, hr⟩ := ht
  have c4 := blk_cell hg 4
  have c9 := blk_cell hg 9
  have c11 := blk_cell hg 11
  have HG := Aside0.mk hg
  have HA := Aside0.mk hA
  clear hg hr hA
  rcases hd : t.down with _ | _
  · rcases h0 : t.s0.lost with _ | _
    · rcases h1 : t.s1.lost with _ | _
      · have H0 := Aside0.mk h0
        have H1 := Aside0.mk h1
        have HD := Aside0.mk hd
        simp [tcells, h0, h1, hd] at c4 c9 c11
        obtain ⟨t1, b1, e1⟩ : ∃ t1 b1, oneF t 0 bs swap = (t1, b1) := ⟨_, _, rfl⟩
        have K0 := one_calls g 0 t A c bs swap w base ok (by omega) HT.out HA.out hs1 hs5 hs6 hl hb
        rw [e1] at K0
        obtain ⟨k1, k2, k3, k4⟩ := oneF_keeps t 0 bs swap t1 b1 e1 rfl hs5 hs6
        have k1 := k1.trans h1
        have K1 := Aside0.mk k1
        have K2 := Aside0.mk k2
        have E1 := Aside0.mk e1
        have KK := Aside0.mk K0
        clear e1 K0 h0 h1 hd k1 k2
        cases b1
        · go_enter Try.func17, Try.ntmps17
          go_wp2_with fail
          refine wp_loop_rounds 3 ?_
          rw [rounds_succ]
          go_wp2_with (go_at_call 21; go_must (refine KK.out.mono ?_; rintro e w1 ⟨rfl, ht1, hc1⟩; have T1 := Aside0.mk ht1; have C1 := Aside0.mk hc1; clear ht1 hc1))
          go_ret
          have e : writeF t bs swap = (t1, 9) := by simp [writeF, turnF, Tp.side, HD.out, H0.out, E1.out]
          rw [e]
          exact ⟨rfl, T1.out, C1.out⟩
        · obtain ⟨t2, b2, e2⟩ : ∃ t2 b2, oneF t1 1 bs swap = (t2, b2) := ⟨_, _, rfl⟩
          have K3 : ∀ w1, TapeM w1 base (fun k => ok k ∨ w.heap.size ≤ k) g t1 → Ch w w1 (fun k => k = g) → Calls Try.prog 21 #[.pointer (some ⟨g, 0, none⟩), .pointer (some ⟨g, 5 * 1, none⟩), .slice A bs.length c, .bool swap] w1 (OneTo g (t2, b2) w1 base (fun k => ok k ∨ w.heap.size ≤ k)) := fun w1 h1 hc => by
            rw [← e2]
            exact one_calls g 1 t1 A c bs swap w1 base _ (by omega) h1 (fun w' h => HA.out w' (hc.then_ h (fun _ h => .inl h))) (show t1.s1.b.length ≤ 1000000 by rw [K2.out]; exact hs2) k3 k4 hl (Nat.le_trans hb hc.size)
          have E2 := Aside0.mk e2
          have K4 := Aside0.mk K3
          clear e2 K3
          cases b2
          · go_enter Try.func17, Try.ntmps17
            go_wp2_with fail
            refine wp_loop_rounds 3 ?_
            rw [rounds_succ]
            go_wp2_with (go_at_call 21; go_must (refine KK.out.mono ?_; rintro e w1 ⟨rfl, ht1, hc1⟩; have T1 := Aside0.mk ht1; have C1 := Aside0.mk hc1; obtain ⟨v1, hg1, hr1⟩ := T1.out; have e9 := blk_cell hg1 9; simp [tcells, K1.out] at e9; clear hg1 hr1; clear ht1 hc1))
            rw [rounds_succ]
            go_wp2_with (go_at_call 21; go_must (refine (K4.out w1 T1.out C1.out).mono ?_; rintro e w2 ⟨rfl, ht2, hc2⟩; have T2 := Aside0.mk ht2; have C2 := Aside0.mk hc2; clear ht2 hc2))
            go_ret
            have e : writeF t bs swap = (t2, 9) := by simp [writeF, turnF, Tp.side, HD.out, H0.out, E1.out, E2.out, K1.out]
            rw [e]
            exact ⟨rfl, T2.out.mono (fun k h => h.elim id (fun h => .inr (Nat.le_trans C1.out.size h))), C1.out.then_ C2.out (fun _ h => .inl h)⟩
          · go_enter Try.func17, Try.ntmps17
            go_wp2_with fail
            refine wp_loop_rounds 3 ?_
            rw [rounds_succ]
            go_wp2_with (go_at_call 21; go_must (refine KK.out.mono ?_; rintro e w1 ⟨rfl, ht1, hc1⟩; have T1 := Aside0.mk ht1; have C1 := Aside0.mk hc1; obtain ⟨v1, hg1, hr1⟩ := T1.out; have e9 := blk_cell hg1 9; simp [tcells, K1.out] at e9; clear hg1 hr1; clear ht1 hc1))
            rw [rounds_succ]
            go_wp2_with (go_at_call 21; go_must (refine (K4.out w1 T1.out C1.out).mono ?_; rintro e w2 ⟨rfl, ht2, hc2⟩; have T2 := Aside0.mk ht2; have C2 := Aside0.mk hc2; clear ht2 hc2))
            rw [rounds_succ]
            go_wp2_with fail
            go_ret
            have e : writeF t bs swap = (t2, 0) := by simp [writeF, turnF, Tp.side, HD.out, H0.out, E1.out, E2.out, K1.out]
            rw [e]
            exact ⟨rfl, T2.out.mono (fun k h => h.elim id (fun h => .inr (Nat.le_trans C1.out.size h))), C1.out.then_ C2.out (fun _ h => .inl h)⟩
      · have H0 := Aside0.mk h0
        have H1 := Aside0.mk h1
        have HD := Aside0.mk hd
        simp [tcells, h0, h1, hd] at c4 c9 c11
        obtain ⟨t1, b1, e1⟩ : ∃ t1 b1, oneF t 0 bs swap = (t1, b1) := ⟨_, _, rfl⟩
        have K0 := one_calls g 0 t A c bs swap w base ok (by omega) HT.out HA.out hs1 hs5 hs6 hl hb
        rw [e1] at K0
        obtain ⟨k1, k2, k3, k4⟩ := oneF_keeps t 0 bs swap t1 b1 e1 rfl hs5 hs6
        have k1 := k1.trans h1
        have K1 := Aside0.mk k1
        have K2 := Aside0.mk k2
        have E1 := Aside0.mk e1
        have KK := Aside0.mk K0
        clear e1 K0 h0 h1 hd k1 k2
        cases b1
        · go_enter Try.func17, Try.ntmps17
          go_wp2_with fail
          refine wp_loop_rounds 3 ?_
          rw [rounds_succ]
          go_wp2_with (go_at_call 21; go_must (refine KK.out.mono ?_; rintro e w1 ⟨rfl, ht1, hc1⟩; have T1 := Aside0.mk ht1; have C1 := Aside0.mk hc1; clear ht1 hc1))
          go_ret
          have e : writeF t bs swap = (t1, 9) := by simp [writeF, turnF, Tp.side, HD.out, H0.out, E1.out]
          rw [e]
          exact ⟨rfl, T1.out, C1.out⟩
        · go_enter Try.func17, Try.ntmps17
          go_wp2_with fail
          refine wp_loop_rounds 3 ?_
          rw [rounds_succ]
          go_wp2_with (go_at_call 21; go_must (refine KK.out.mono ?_; rintro e w1 ⟨rfl, ht1, hc1⟩; have T1 := Aside0.mk ht1; have C1 := Aside0.mk hc1; obtain ⟨v1, hg1, hr1⟩ := T1.out; have e9 := blk_cell hg1 9; simp [tcells, K1.out] at e9; clear hg1 hr1; clear ht1 hc1))
          rw [rounds_succ]
          go_wp2_with fail
          rw [rounds_succ]
          go_wp2_with fail
          go_ret
          have e : writeF t bs swap = (t1, 0) := by simp [writeF, turnF, Tp.side, HD.out, H0.out, H1.out, E1.out, K1.out]
          rw [e]
          exact ⟨rfl, T1.out, C1.out⟩
    · rcases h1 : t.s1.lost with _ | _
      · have H0 := Aside0.mk h0
        have H1 := Aside0.mk h1
        have HD := Aside0.mk hd
        simp [tcells, h0, h1, hd] at c4 c9 c11
        obtain ⟨t1, b1, e1⟩ : ∃ t1 b1, oneF t 1 bs swap = (t1, b1) := ⟨_, _, rfl⟩
        have K0 := one_calls g 1 t A c bs swap w base ok (by omega) HT.out HA.out hs2 hs5 hs6 hl hb
        rw [e1] at K0
        have E1 := Aside0.mk e1
        have KK := Aside0.mk K0
        clear e1 K0 h0 h1 hd
        cases b1
        · go_enter Try.func17, Try.ntmps17
          go_wp2_with fail
          refine wp_loop_rounds 3 ?_
          rw [rounds_succ]
          go_wp2_with fail
          rw [rounds_succ]
          go_wp2_with (go_at_call 21; go_must (refine KK.out.mono ?_; rintro e w1 ⟨rfl, ht1, hc1⟩; have T1 := Aside0.mk ht1; have C1 := Aside0.mk hc1; clear ht1 hc1))
          go_ret
          have e : writeF t bs swap = (t1, 9) := by simp [writeF, turnF, Tp.side, HD.out, H0.out, H1.out, E1.out]
          rw [e]
          exact ⟨rfl, T1.out, C1.out⟩
        · go_enter Try.func17, Try.ntmps17
          go_wp2_with fail
          refine wp_loop_rounds 3 ?_
          rw [rounds_succ]
          go_wp2_with fail
          rw [rounds_succ]
          go_wp2_with (go_at_call 21; go_must (refine KK.out.mono ?_; rintro e w1 ⟨rfl, ht1, hc1⟩; have T1 := Aside0.mk ht1; have C1 := Aside0.mk hc1; clear ht1 hc1))
          rw [rounds_succ]
          go_wp2_with fail
          go_ret
          have e : writeF t bs swap = (t1, 0) := by simp [writeF, turnF, Tp.side, HD.out, H0.out, H1.out, E1.out]
          rw [e]
          exact ⟨rfl, T1.out, C1.out⟩
      · have H0 := Aside0.mk h0
        have H1 := Aside0.mk h1
        have HD := Aside0.mk hd
        simp [tcells, h0, h1, hd] at c4 c9 c11
        clear h0 h1 hd
        go_enter Try.func17, Try.ntmps17
        go_wp2_with fail
        go_ret
        have e : writeF t bs swap = (t, 8) := by simp [writeF, HD.out, H0.out, H1.out]
        rw [e]
        exact ⟨rfl, HT.out.mono (fun _ h => .inl h), Ch.refl _ _⟩
  · have HD := Aside0.mk hd
    simp [tcells, hd] at c4 c9 c11
    clear hd
    go_enter Try.func17, Try.ntmps17
    go_wp2_with fail
    go_ret
    have e : writeF t bs swap = (t, 9) := by simp [writeF, HD.out]
    rw [e]
    exact ⟨rfl, HT.out.mono (fun _ h => .inl h), Ch.refl _ _⟩
end Go.Proofs.Ytgehempmccponaa
