/- The reference's Crash. -/
import Derived.Test.YtgehempmccponaaJ
import Derived.StillTailTactics
set_option linter.unusedVariables false
namespace Go.Proofs.Ytgehempmccponaa
open Go.RowKit Go.Proofs.YtgehempmccponaaW.PrintWords Go.Proofs.YtgehempmccponaaW.PrintLast Go.Proofs.YtgehempmccponaaW.PrintMore
def rcrashS (s : Sd) (keep : Int) : Sd := ⟨s.upto keep, [], false, false, s.lost⟩
def rcrashF (t : Tp) (keep : Int) : Tp := ⟨rcrashS t.s0 keep, rcrashS t.s1 keep, -1, false⟩
def rcrash1 (t : Tp) (keep : Int) : Tp := { t with s0 := rcrashS t.s0 keep }
def rcrash2 (t : Tp) (keep : Int) : Tp := { t with s0 := rcrashS t.s0 keep, s1 := rcrashS t.s1 keep }
def RelD (t : Tp) (keep : Int) (k : Nat) (tt : Tp) : Prop := (k = 0 ∧ t = tt) ∨ (k = 1 ∧ tt = rcrash1 t keep) ∨ (k = 2 ∧ tt = rcrash2 t keep)
def ActToR (g : Nat) (r : Tp) (w : World) (base : Nat) (ok : Nat → Prop) (e : Ending) (w' : World) : Prop :=
  e = .returned (.tuple #[]) ∧ TapeR w' base (fun k => ok k ∨ w.heap.size ≤ k) g r ∧ Ch w w' (fun k => k = g)
set_option maxHeartbeats 2000000 in
theorem rcrash_calls (g : Nat) (t : Tp) (keep : Int) (w : World) (base : Nat) (ok : Nat → Prop) (ht : TapeR w base ok g t) (hs1 : t.s0.b.length ≤ 1000000) (hs2 : t.s0.l.length ≤ 1000000) (hs3 : t.s1.b.length ≤ 1000000) (hs4 : t.s1.l.length ≤ 1000000) (hb : base ≤ w.heap.size) :
    Calls Try.prog 11 #[.pointer (some ⟨g, 0, none⟩), .int .i64 keep] w (ActToR g (rcrashF t keep) w base ok) := by
  have HT := Aside0.mk ht
  clear ht
  go_enter Try.func11, Try.ntmps11
  go_wp2_with fail
  go_loopw [4] (fun v w' => ∃ (k : Nat) (tt : Tp), v = .int .i64 k ∧ Aside0 (RelD t keep k tt) ∧ Aside0 (TapeR w' base (fun j => ok j ∨ w.heap.size ≤ j) g tt) ∧ Aside0 (Ch w w' (fun j => j = g))) (fun v _ => 2 - (intOf v).toNat)
  case atStart => exact ⟨0, t, rfl, ⟨.inl ⟨rfl, rfl⟩⟩, ⟨HT.out.mono (fun _ h => .inl h)⟩, ⟨Ch.refl _ _⟩⟩
  case round =>
    obtain ⟨k, tt, rfl, HK, HM, HC⟩ := hrel
    obtain ⟨v, hg, hr⟩ := HM.out
    have HG := Aside0.mk hg
    have HR := Aside0.mk hr
    clear hr
    rcases HK.out with ⟨rfl, rfl⟩ | ⟨rfl, rfl⟩ | ⟨rfl, rfl⟩
    · obtain ⟨vb0, vl0, vb1, vl1⟩ := v
      have HB : Aside0 (B8.R 5 wr base (fun j => ok j ∨ w.heap.size ≤ j) vb0 t.s0.b) := ⟨HR.out.b0⟩
      have HL : Aside0 (B8.R 5 wr base (fun j => ok j ∨ w.heap.size ≤ j) vl0 t.s0.l) := ⟨HR.out.l0⟩
      obtain ⟨Ab, cb, hbb, hcb, _⟩ := R_open HB.out
      obtain ⟨Al, cl, hbl, hcl, _⟩ := R_open HL.out
      subst hbb hbl
      have hgl := blk_lt HG.out
      have c0 := blk_cell hg 0
      have c1 := blk_cell hg 1
      have c2 := blk_cell hg 2
      have c3 := blk_cell hg 3
      have c4 := blk_cell hg 4
      simp [rcells] at c0 c1 c2 c3 c4
      clear hg
      have K0 := Aside0.mk (all_calls t.s0 _ _ keep wr base _ HB.out HL.out (by omega) (by omega) (Nat.le_trans hb HC.out.size))
      obtain ⟨ys, hy⟩ : ∃ ys, ys = t.s0.upto keep := ⟨_, rfl⟩
      rw [← hy] at K0
      have HY := Aside0.mk hy
      clear hy
      have hfr : ∀ i, wr.frozen? ⟨g, i, none⟩ = false := fun i => blk_frozen HG.out i
      go_wp2_with (go_at_call 16; go_must (refine K0.out.mono ?_; rintro e w1 ⟨v1, rfl, ho1, hc1⟩; obtain ⟨A1, c1_, rfl⟩ := Kd.R_slice ho1; have H1 := Aside0.mk ho1; have C1 := Aside0.mk hc1; have G1 := Aside0.mk (hc1.blk HG.out (fun h => h)); have d0 := blk_cell G1.out 0; have d1 := blk_cell G1.out 1; have d2 := blk_cell G1.out 2; have d3 := blk_cell G1.out 3; have d4 := blk_cell G1.out 4; have hf1 : ∀ i, w1.frozen? ⟨g, i, none⟩ = false := (fun i => blk_frozen G1.out i); simp [rcells] at d0 d1 d2 d3 d4; clear ho1 hc1))
      go_still_tail 14, (by kernel_rfl)
      change wpList _ _ _ _ _ w1.drew
      have D := Aside0.mk ((C1.out.mono (S' := fun j => j = g) (fun _ h => h.elim)).drew)
      have G2 : Aside0 (w1.drew.heap[g]? = some (.cells (rcells _ t) 32 (0, 0))) := ⟨G1.out⟩
      have H2 : Aside0 (B8.R 5 w1.drew base _ (.slice A1 ys.length c1_) ys) := ⟨Kd.R_drew H1.out⟩
      have e0 : w1.drew.cell? ⟨g, 0, none⟩ = _ := d0
      have e1 : w1.drew.cell? ⟨g, 1, none⟩ = _ := d1
      have e2 : w1.drew.cell? ⟨g, 2, none⟩ = _ := d2
      have e3 : w1.drew.cell? ⟨g, 3, none⟩ = _ := d3
      have e4 : w1.drew.cell? ⟨g, 4, none⟩ = _ := d4
      have hf2 : ∀ i, w1.drew.frozen? ⟨g, i, none⟩ = false := hf1
      clear c0 c1 c2 c3 c4 d0 d1 d2 d3 d4 hfr hf1 C1 G1 H1
      generalize hw2 : w1.drew = w2 at D G2 H2 e0 e1 e2 e3 e4 hf2 ⊢
      clear hw2
      go_wp2_with fail
      have CC := (((((Ch.refl w2 (fun k => k = g)).setCell (p := ⟨g, 0, none⟩) (.inl rfl) (.slice A1 ys.length c1_)).setCell (p := ⟨g, 1, none⟩) (.inl rfl) (.slice none 0 0)).setCell (p := ⟨g, 2, none⟩) (.inl rfl) (.bool false)).setCell (p := ⟨g, 3, none⟩) (.inl rfl) (.bool false)).setCell (p := ⟨g, 4, none⟩) (.inl rfl) (.bool t.s0.lost)
      have C := D.out.then_ CC (fun _ h => .inl h)
      have R := HR.out.keep HG.out (by decide) C
      have N1 := Kd.R_mono (ok' := fun j => ok j ∨ w.heap.size ≤ j) (row_keep H2.out G2.out (by decide) CC) (fun k hk => hk.elim id (fun h => .inr (Nat.le_trans HC.out.size h)))
      have TM : TapeR (((((w2.setCell ⟨g, 0, none⟩ (.slice A1 ys.length c1_)).setCell ⟨g, 1, none⟩ (.slice none 0 0)).setCell ⟨g, 2, none⟩ (.bool false)).setCell ⟨g, 3, none⟩ (.bool false)).setCell ⟨g, 4, none⟩ (.bool t.s0.lost)) base (fun j => ok j ∨ w.heap.size ≤ j) g (rcrash1 t keep) := by
        have e : rcrashS t.s0 keep = ⟨ys, [], false, false, t.s0.lost⟩ := by rw [HY.out]; rfl
        unfold rcrash1
        rw [e]
        exact ⟨⟨.slice A1 ys.length c1_, .slice none 0 0, vb1, vl1⟩, blk_set (blk_set (blk_set (blk_set (blk_set (G2.out) 0 _) 1 _) 2 _) 3 _) 4 _, ⟨N1, Kd.R_nil _ _ _ _ _, R.b1, R.l1⟩⟩
      have TM' := Aside0.mk TM
      have CF := Aside0.mk (HC.out.then_ C (fun _ h => .inl h))
      clear TM CC C R N1
      go_roundw
      case rel => exact ⟨1, _, by go_num, ⟨.inr (.inl ⟨rfl, rfl⟩)⟩, TM', CF⟩
      case measure => simp [intOf]
    · obtain ⟨vb0, vl0, vb1, vl1⟩ := v
      have HB : Aside0 (B8.R 5 wr base (fun j => ok j ∨ w.heap.size ≤ j) vb1 t.s1.b) := ⟨HR.out.b1⟩
      have HL : Aside0 (B8.R 5 wr base (fun j => ok j ∨ w.heap.size ≤ j) vl1 t.s1.l) := ⟨HR.out.l1⟩
      obtain ⟨Ab, cb, hbb, hcb, _⟩ := R_open HB.out
      obtain ⟨Al, cl, hbl, hcl, _⟩ := R_open HL.out
      subst hbb hbl
      have hgl := blk_lt HG.out
      have c0 := blk_cell hg 5
      have c1 := blk_cell hg 6
      have c2 := blk_cell hg 7
      have c3 := blk_cell hg 8
      have c4 := blk_cell hg 9
      simp [rcells, rcrash1] at c0 c1 c2 c3 c4
      clear hg
      have K0 := Aside0.mk (all_calls t.s1 _ _ keep wr base _ HB.out HL.out (by omega) (by omega) (Nat.le_trans hb HC.out.size))
      obtain ⟨ys, hy⟩ : ∃ ys, ys = t.s1.upto keep := ⟨_, rfl⟩
      rw [← hy] at K0
      have HY := Aside0.mk hy
      clear hy
      have hfr : ∀ i, wr.frozen? ⟨g, i, none⟩ = false := fun i => blk_frozen HG.out i
      go_wp2_with (go_at_call 16; go_must (refine K0.out.mono ?_; rintro e w1 ⟨v1, rfl, ho1, hc1⟩; obtain ⟨A1, c1_, rfl⟩ := Kd.R_slice ho1; have H1 := Aside0.mk ho1; have C1 := Aside0.mk hc1; have G1 := Aside0.mk (hc1.blk HG.out (fun h => h)); have d0 := blk_cell G1.out 5; have d1 := blk_cell G1.out 6; have d2 := blk_cell G1.out 7; have d3 := blk_cell G1.out 8; have d4 := blk_cell G1.out 9; have hf1 : ∀ i, w1.frozen? ⟨g, i, none⟩ = false := (fun i => blk_frozen G1.out i); simp [rcells, rcrash1] at d0 d1 d2 d3 d4; clear ho1 hc1))
      go_still_tail 14, (by kernel_rfl)
      change wpList _ _ _ _ _ w1.drew
      have D := Aside0.mk ((C1.out.mono (S' := fun j => j = g) (fun _ h => h.elim)).drew)
      have G2 : Aside0 (w1.drew.heap[g]? = some (.cells (rcells _ (rcrash1 t keep)) 32 (0, 0))) := ⟨G1.out⟩
      have H2 : Aside0 (B8.R 5 w1.drew base _ (.slice A1 ys.length c1_) ys) := ⟨Kd.R_drew H1.out⟩
      have e0 : w1.drew.cell? ⟨g, 5, none⟩ = _ := d0
      have e1 : w1.drew.cell? ⟨g, 6, none⟩ = _ := d1
      have e2 : w1.drew.cell? ⟨g, 7, none⟩ = _ := d2
      have e3 : w1.drew.cell? ⟨g, 8, none⟩ = _ := d3
      have e4 : w1.drew.cell? ⟨g, 9, none⟩ = _ := d4
      have hf2 : ∀ i, w1.drew.frozen? ⟨g, i, none⟩ = false := hf1
      clear c0 c1 c2 c3 c4 d0 d1 d2 d3 d4 hfr hf1 C1 G1 H1
      generalize hw2 : w1.drew = w2 at D G2 H2 e0 e1 e2 e3 e4 hf2 ⊢
      clear hw2
      go_wp2_with fail
      have CC := (((((Ch.refl w2 (fun k => k = g)).setCell (p := ⟨g, 5, none⟩) (.inl rfl) (.slice A1 ys.length c1_)).setCell (p := ⟨g, 6, none⟩) (.inl rfl) (.slice none 0 0)).setCell (p := ⟨g, 7, none⟩) (.inl rfl) (.bool false)).setCell (p := ⟨g, 8, none⟩) (.inl rfl) (.bool false)).setCell (p := ⟨g, 9, none⟩) (.inl rfl) (.bool t.s1.lost)
      have C := D.out.then_ CC (fun _ h => .inl h)
      have R := HR.out.keep HG.out (by decide) C
      have N1 := Kd.R_mono (ok' := fun j => ok j ∨ w.heap.size ≤ j) (row_keep H2.out G2.out (by decide) CC) (fun k hk => hk.elim id (fun h => .inr (Nat.le_trans HC.out.size h)))
      have TM : TapeR (((((w2.setCell ⟨g, 5, none⟩ (.slice A1 ys.length c1_)).setCell ⟨g, 6, none⟩ (.slice none 0 0)).setCell ⟨g, 7, none⟩ (.bool false)).setCell ⟨g, 8, none⟩ (.bool false)).setCell ⟨g, 9, none⟩ (.bool t.s1.lost)) base (fun j => ok j ∨ w.heap.size ≤ j) g (rcrash2 t keep) := by
        have e : rcrashS t.s1 keep = ⟨ys, [], false, false, t.s1.lost⟩ := by rw [HY.out]; rfl
        unfold rcrash2
        rw [e]
        exact ⟨⟨vb0, vl0, .slice A1 ys.length c1_, .slice none 0 0⟩, blk_set (blk_set (blk_set (blk_set (blk_set (G2.out) 5 _) 6 _) 7 _) 8 _) 9 _, ⟨R.b0, R.l0, N1, Kd.R_nil _ _ _ _ _⟩⟩
      have TM' := Aside0.mk TM
      have CF := Aside0.mk (HC.out.then_ C (fun _ h => .inl h))
      clear TM CC C R N1
      go_roundw
      case rel => exact ⟨2, _, by go_num, ⟨.inr (.inr ⟨rfl, rfl⟩)⟩, TM', CF⟩
      case measure => simp [intOf]
    · have c10 := blk_cell hg 10
      have c11 := blk_cell hg 11
      have hfr : ∀ i, wr.frozen? ⟨g, i, none⟩ = false := fun i => blk_frozen HG.out i
      simp [rcells] at c10 c11
      clear hg
      go_wp2_with fail
      go_end0
      have CW := ((Ch.refl wr (fun j => j = g)).setCell (p := ⟨g, 10, none⟩) (.inl rfl) (.int .i64 (-1))).setCell (p := ⟨g, 11, none⟩) (.inl rfl) (.bool false)
      have R := HR.out.keep HG.out (by decide) CW
      exact ⟨rfl, ⟨v, blk_set (blk_set HG.out 10 _) 11 _, ⟨R.b0, R.l0, R.b1, R.l1⟩⟩, HC.out.then_ CW (fun _ h => .inl h)⟩
end Go.Proofs.Ytgehempmccponaa

