/- Read, Crash. -/
import Derived.Test.YtgehempmccponaaE
set_option linter.unusedVariables false
namespace Go.Proofs.Ytgehempmccponaa
open Go.RowKit Go.Proofs.YtgehempmccponaaW.PrintWords Go.Proofs.YtgehempmccponaaW.PrintLast Go.Proofs.YtgehempmccponaaW.PrintMore
def Sd.all (s : Sd) : List Int := if s.wet then (if s.swap then [] else s.b) ++ s.l else s.b
def ReadTo (s : Sd) (w : World) (e : Ending) (w' : World) : Prop :=
  ∃ v', e = .returned (.tuple #[v', .int .i64 (if s.lost then 8 else 0)]) ∧ B8.R 5 w' w.heap.size (fun _ => True) v' (if s.lost then [] else s.all) ∧ Ch w w' (fun _ => False)
set_option maxHeartbeats 1000000 in
theorem read_calls (g n : Nat) (t : Tp) (w : World) (base : Nat) (ok : Nat → Prop) (ht : TapeM w base ok g t) (hn : n < 2) (hs1 : (t.side n).b.length ≤ 1000000) (hs2 : (t.side n).l.length ≤ 1000000) :
    Calls Try.prog 14 #[.pointer (some ⟨g, 0, none⟩), .int .i64 n] w (ReadTo (t.side n) w) := by
  obtain ⟨v, hg, hr⟩ := ht
  have HG := Aside0.mk hg
  have HR := Aside0.mk hr
  have HS1 := Aside0.mk hs1
  have HS2 := Aside0.mk hs2
  clear hr hs1 hs2
  obtain ⟨vb0, vl0, vb1, vl1⟩ := v
  rcases n with _ | _ | n
  · obtain ⟨Ab, cb, hb, hcb, hCb⟩ := R_open HR.out.b0
    obtain ⟨Al, cl, hl, hcl, hCl⟩ := R_open HR.out.l0
    dsimp only at hb hl
    subst hb hl
    have c0 := blk_cell hg 0
    have c1 := blk_cell hg 1
    have c2 := blk_cell hg 2
    have c3 := blk_cell hg 3
    have c4 := blk_cell hg 4
    rcases h4 : t.s0.lost with _ | _
    · rcases h3 : t.s0.wet with _ | _
      · simp [tcells, h3, h4] at c0 c1 c2 c3 c4
        have HC := Aside0.mk hCb
        have H3 := Aside0.mk h3
        have H4 := Aside0.mk h4
        clear hg hCb hCl hcb hcl h3 h4
        go_enter Try.func14, Try.ntmps14
        go_wp2_with (go_at_call 20; go_must (refine (clone_calls Ab cb t.s0.b _ (Kd.C_below HC.out (below_alloc (Below.refl _ _) _)) (by have := HS1.out; simp [Tp.side] at this; omega)).mono ?_; rintro e w1 ⟨v1, rfl, ho1, hc1⟩; obtain ⟨A2, q2, rfl⟩ := Kd.R_slice ho1; have H1 := Aside0.mk ho1; have C1 := Aside0.mk hc1; clear ho1 hc1))
        go_ret2
        have e1 : (t.side 0).lost = false := H4.out
        have e2 : (t.side 0).all = t.s0.b := by simp [Sd.all, Tp.side, H3.out]
        have e3 := Kd.R_lower H1.out (base' := w.heap.size) (by simp)
        refine ⟨_, by rw [e1]; rfl, ?_, ((Ch.refl w _).alloc _).then_ C1.out (fun _ h => h.elim)⟩
        rw [e1, e2]
        exact e3
      · rcases h2 : t.s0.swap with _ | _
        · simp [tcells, h3, h4, h2] at c0 c1 c2 c3 c4
          have HC := Aside0.mk hCb
          have HL := Aside0.mk hCl
          have H2 := Aside0.mk h2
          have H3 := Aside0.mk h3
          have H4 := Aside0.mk h4
          clear hg hCb hCl hcb hcl h3 h4 h2
          have HRb := Aside0.mk HR.out.b0
          obtain ⟨ys, hy⟩ : ∃ ys, ys = (if false = true then [] else t.s0.b) ++ t.s0.l := ⟨_, rfl⟩
          have HYL : Aside0 (ys.length ≤ 2000000) := ⟨by rw [hy]; have := HS1.out; have := HS2.out; simp [Tp.side] at *; omega⟩
          have HY := Aside0.mk hy
          clear hy
          have G0 : Aside0 ((w.alloc (.cells #[.slice Ab t.s0.b.length cb, .slice Al t.s0.l.length cl, .bool false, .bool true, .bool false] 46)).heap[w.heap.size]? = some (.cells #[.slice Ab t.s0.b.length cb, .slice Al t.s0.l.length cl, .bool false, .bool true, .bool false] 46 (0, 0))) := ⟨blk_new _ _⟩
          go_enter Try.func14, Try.ntmps14
          go_wp2_with (first | (go_at_call 18; go_must (refine (apply_calls w.heap.size 0 46 _ (.slice Ab t.s0.b.length cb) t.s0.b Al cl t.s0.l ys false _ base ok G0.out rfl (by decide) (Kd.R_below HRb.out (below_alloc (Below.refl _ _) _)) (fun w' h => Kd.C_below HL.out (((Ch.refl w (fun _ => False)).alloc _).then_ h (fun k hk => .inr (by omega))|>.quiet (fun _ h => h.elim))) (by have := HS1.out; simp [Tp.side] at this; omega) (by have := HS2.out; simp [Tp.side] at this; omega) HY.out).mono ?_; rintro e w1 ⟨rfl, v1, hb1, ho1, hc1⟩; obtain ⟨A2, q2, rfl⟩ := Kd.R_slice ho1; have B1 := Aside0.mk hb1; have H1 := Aside0.mk ho1; have C1 := Aside0.mk hc1; have d0 := (blk_cell hb1 0); simp at d0; clear hb1 ho1 hc1)) | (go_at_call 20; go_must (refine (clone_calls A2 q2 ys _ (Kd.R_reads' H1.out).2.2 (by have := HYL.out; omega)).mono ?_; rintro e w2 ⟨v2, rfl, ho2, hc2⟩; obtain ⟨A3, q3, rfl⟩ := Kd.R_slice ho2; have H5 := Aside0.mk ho2; have C2 := Aside0.mk hc2; clear ho2 hc2)))
          go_ret2
          have e1 : (t.side 0).lost = false := H4.out
          have e2 : (t.side 0).all = ys := by rw [HY.out]; simp [Sd.all, Tp.side, H3.out, H2.out]
          have hz : w.heap.size ≤ w1.heap.size := by have := C1.out.size; simp at this; omega
          have e3 := Kd.R_lower H5.out hz
          refine ⟨_, by rw [e1]; rfl, ?_, (((Ch.refl w _).alloc _).then_ C1.out (fun k hk => .inr (by omega))).then_ C2.out (fun _ h => h.elim)⟩
          rw [e1, e2]
          exact e3
        · simp [tcells, h3, h4, h2] at c0 c1 c2 c3 c4
          have HC := Aside0.mk hCb
          have HL := Aside0.mk hCl
          have H2 := Aside0.mk h2
          have H3 := Aside0.mk h3
          have H4 := Aside0.mk h4
          clear hg hCb hCl hcb hcl h3 h4 h2
          have HRb := Aside0.mk HR.out.b0
          obtain ⟨ys, hy⟩ : ∃ ys, ys = (if true = true then [] else t.s0.b) ++ t.s0.l := ⟨_, rfl⟩
          have HYL : Aside0 (ys.length ≤ 2000000) := ⟨by rw [hy]; have := HS1.out; have := HS2.out; simp [Tp.side] at *; omega⟩
          have HY := Aside0.mk hy
          clear hy
          have G0 : Aside0 ((w.alloc (.cells #[.slice Ab t.s0.b.length cb, .slice Al t.s0.l.length cl, .bool true, .bool true, .bool false] 46)).heap[w.heap.size]? = some (.cells #[.slice Ab t.s0.b.length cb, .slice Al t.s0.l.length cl, .bool true, .bool true, .bool false] 46 (0, 0))) := ⟨blk_new _ _⟩
          go_enter Try.func14, Try.ntmps14
          go_wp2_with (first | (go_at_call 18; go_must (refine (apply_calls w.heap.size 0 46 _ (.slice Ab t.s0.b.length cb) t.s0.b Al cl t.s0.l ys true _ base ok G0.out rfl (by decide) (Kd.R_below HRb.out (below_alloc (Below.refl _ _) _)) (fun w' h => Kd.C_below HL.out (((Ch.refl w (fun _ => False)).alloc _).then_ h (fun k hk => .inr (by omega))|>.quiet (fun _ h => h.elim))) (by have := HS1.out; simp [Tp.side] at this; omega) (by have := HS2.out; simp [Tp.side] at this; omega) HY.out).mono ?_; rintro e w1 ⟨rfl, v1, hb1, ho1, hc1⟩; obtain ⟨A2, q2, rfl⟩ := Kd.R_slice ho1; have B1 := Aside0.mk hb1; have H1 := Aside0.mk ho1; have C1 := Aside0.mk hc1; have d0 := (blk_cell hb1 0); simp at d0; clear hb1 ho1 hc1)) | (go_at_call 20; go_must (refine (clone_calls A2 q2 ys _ (Kd.R_reads' H1.out).2.2 (by have := HYL.out; omega)).mono ?_; rintro e w2 ⟨v2, rfl, ho2, hc2⟩; obtain ⟨A3, q3, rfl⟩ := Kd.R_slice ho2; have H5 := Aside0.mk ho2; have C2 := Aside0.mk hc2; clear ho2 hc2)))
          go_ret2
          have e1 : (t.side 0).lost = false := H4.out
          have e2 : (t.side 0).all = ys := by rw [HY.out]; simp [Sd.all, Tp.side, H3.out, H2.out]
          have hz : w.heap.size ≤ w1.heap.size := by have := C1.out.size; simp at this; omega
          have e3 := Kd.R_lower H5.out hz
          refine ⟨_, by rw [e1]; rfl, ?_, (((Ch.refl w _).alloc _).then_ C1.out (fun k hk => .inr (by omega))).then_ C2.out (fun _ h => h.elim)⟩
          rw [e1, e2]
          exact e3
    · simp [tcells, h4] at c0 c1 c2 c3 c4
      have H4 := Aside0.mk h4
      clear hg hCb hCl hcb hcl h4
      go_enter Try.func14, Try.ntmps14
      go_wp2_with fail
      go_ret2
      have e1 : (t.side 0).lost = true := H4.out
      refine ⟨_, by rw [e1]; rfl, ?_, Ch.refl _ _⟩
      rw [e1]
      exact Kd.R_nil _ _ _ _ _
  · obtain ⟨Ab, cb, hb, hcb, hCb⟩ := R_open HR.out.b1
    obtain ⟨Al, cl, hl, hcl, hCl⟩ := R_open HR.out.l1
    dsimp only at hb hl
    subst hb hl
    have c0 := blk_cell hg 5
    have c1 := blk_cell hg 6
    have c2 := blk_cell hg 7
    have c3 := blk_cell hg 8
    have c4 := blk_cell hg 9
    rcases h4 : t.s1.lost with _ | _
    · rcases h3 : t.s1.wet with _ | _
      · simp [tcells, h3, h4] at c0 c1 c2 c3 c4
        have HC := Aside0.mk hCb
        have H3 := Aside0.mk h3
        have H4 := Aside0.mk h4
        clear hg hCb hCl hcb hcl h3 h4
        go_enter Try.func14, Try.ntmps14
        go_wp2_with (go_at_call 20; go_must (refine (clone_calls Ab cb t.s1.b _ (Kd.C_below HC.out (below_alloc (Below.refl _ _) _)) (by have := HS1.out; simp [Tp.side] at this; omega)).mono ?_; rintro e w1 ⟨v1, rfl, ho1, hc1⟩; obtain ⟨A2, q2, rfl⟩ := Kd.R_slice ho1; have H1 := Aside0.mk ho1; have C1 := Aside0.mk hc1; clear ho1 hc1))
        go_ret2
        have e1 : (t.side 1).lost = false := H4.out
        have e2 : (t.side 1).all = t.s1.b := by simp [Sd.all, Tp.side, H3.out]
        have e3 := Kd.R_lower H1.out (base' := w.heap.size) (by simp)
        refine ⟨_, by rw [e1]; rfl, ?_, ((Ch.refl w _).alloc _).then_ C1.out (fun _ h => h.elim)⟩
        rw [e1, e2]
        exact e3
      · rcases h2 : t.s1.swap with _ | _
        · simp [tcells, h3, h4, h2] at c0 c1 c2 c3 c4
          have HC := Aside0.mk hCb
          have HL := Aside0.mk hCl
          have H2 := Aside0.mk h2
          have H3 := Aside0.mk h3
          have H4 := Aside0.mk h4
          clear hg hCb hCl hcb hcl h3 h4 h2
          have HRb := Aside0.mk HR.out.b1
          obtain ⟨ys, hy⟩ : ∃ ys, ys = (if false = true then [] else t.s1.b) ++ t.s1.l := ⟨_, rfl⟩
          have HYL : Aside0 (ys.length ≤ 2000000) := ⟨by rw [hy]; have := HS1.out; have := HS2.out; simp [Tp.side] at *; omega⟩
          have HY := Aside0.mk hy
          clear hy
          have G0 : Aside0 ((w.alloc (.cells #[.slice Ab t.s1.b.length cb, .slice Al t.s1.l.length cl, .bool false, .bool true, .bool false] 46)).heap[w.heap.size]? = some (.cells #[.slice Ab t.s1.b.length cb, .slice Al t.s1.l.length cl, .bool false, .bool true, .bool false] 46 (0, 0))) := ⟨blk_new _ _⟩
          go_enter Try.func14, Try.ntmps14
          go_wp2_with (first | (go_at_call 18; go_must (refine (apply_calls w.heap.size 0 46 _ (.slice Ab t.s1.b.length cb) t.s1.b Al cl t.s1.l ys false _ base ok G0.out rfl (by decide) (Kd.R_below HRb.out (below_alloc (Below.refl _ _) _)) (fun w' h => Kd.C_below HL.out (((Ch.refl w (fun _ => False)).alloc _).then_ h (fun k hk => .inr (by omega))|>.quiet (fun _ h => h.elim))) (by have := HS1.out; simp [Tp.side] at this; omega) (by have := HS2.out; simp [Tp.side] at this; omega) HY.out).mono ?_; rintro e w1 ⟨rfl, v1, hb1, ho1, hc1⟩; obtain ⟨A2, q2, rfl⟩ := Kd.R_slice ho1; have B1 := Aside0.mk hb1; have H1 := Aside0.mk ho1; have C1 := Aside0.mk hc1; have d0 := (blk_cell hb1 0); simp at d0; clear hb1 ho1 hc1)) | (go_at_call 20; go_must (refine (clone_calls A2 q2 ys _ (Kd.R_reads' H1.out).2.2 (by have := HYL.out; omega)).mono ?_; rintro e w2 ⟨v2, rfl, ho2, hc2⟩; obtain ⟨A3, q3, rfl⟩ := Kd.R_slice ho2; have H5 := Aside0.mk ho2; have C2 := Aside0.mk hc2; clear ho2 hc2)))
          go_ret2
          have e1 : (t.side 1).lost = false := H4.out
          have e2 : (t.side 1).all = ys := by rw [HY.out]; simp [Sd.all, Tp.side, H3.out, H2.out]
          have hz : w.heap.size ≤ w1.heap.size := by have := C1.out.size; simp at this; omega
          have e3 := Kd.R_lower H5.out hz
          refine ⟨_, by rw [e1]; rfl, ?_, (((Ch.refl w _).alloc _).then_ C1.out (fun k hk => .inr (by omega))).then_ C2.out (fun _ h => h.elim)⟩
          rw [e1, e2]
          exact e3
        · simp [tcells, h3, h4, h2] at c0 c1 c2 c3 c4
          have HC := Aside0.mk hCb
          have HL := Aside0.mk hCl
          have H2 := Aside0.mk h2
          have H3 := Aside0.mk h3
          have H4 := Aside0.mk h4
          clear hg hCb hCl hcb hcl h3 h4 h2
          have HRb := Aside0.mk HR.out.b1
          obtain ⟨ys, hy⟩ : ∃ ys, ys = (if true = true then [] else t.s1.b) ++ t.s1.l := ⟨_, rfl⟩
          have HYL : Aside0 (ys.length ≤ 2000000) := ⟨by rw [hy]; have := HS1.out; have := HS2.out; simp [Tp.side] at *; omega⟩
          have HY := Aside0.mk hy
          clear hy
          have G0 : Aside0 ((w.alloc (.cells #[.slice Ab t.s1.b.length cb, .slice Al t.s1.l.length cl, .bool true, .bool true, .bool false] 46)).heap[w.heap.size]? = some (.cells #[.slice Ab t.s1.b.length cb, .slice Al t.s1.l.length cl, .bool true, .bool true, .bool false] 46 (0, 0))) := ⟨blk_new _ _⟩
          go_enter Try.func14, Try.ntmps14
          go_wp2_with (first | (go_at_call 18; go_must (refine (apply_calls w.heap.size 0 46 _ (.slice Ab t.s1.b.length cb) t.s1.b Al cl t.s1.l ys true _ base ok G0.out rfl (by decide) (Kd.R_below HRb.out (below_alloc (Below.refl _ _) _)) (fun w' h => Kd.C_below HL.out (((Ch.refl w (fun _ => False)).alloc _).then_ h (fun k hk => .inr (by omega))|>.quiet (fun _ h => h.elim))) (by have := HS1.out; simp [Tp.side] at this; omega) (by have := HS2.out; simp [Tp.side] at this; omega) HY.out).mono ?_; rintro e w1 ⟨rfl, v1, hb1, ho1, hc1⟩; obtain ⟨A2, q2, rfl⟩ := Kd.R_slice ho1; have B1 := Aside0.mk hb1; have H1 := Aside0.mk ho1; have C1 := Aside0.mk hc1; have d0 := (blk_cell hb1 0); simp at d0; clear hb1 ho1 hc1)) | (go_at_call 20; go_must (refine (clone_calls A2 q2 ys _ (Kd.R_reads' H1.out).2.2 (by have := HYL.out; omega)).mono ?_; rintro e w2 ⟨v2, rfl, ho2, hc2⟩; obtain ⟨A3, q3, rfl⟩ := Kd.R_slice ho2; have H5 := Aside0.mk ho2; have C2 := Aside0.mk hc2; clear ho2 hc2)))
          go_ret2
          have e1 : (t.side 1).lost = false := H4.out
          have e2 : (t.side 1).all = ys := by rw [HY.out]; simp [Sd.all, Tp.side, H3.out, H2.out]
          have hz : w.heap.size ≤ w1.heap.size := by have := C1.out.size; simp at this; omega
          have e3 := Kd.R_lower H5.out hz
          refine ⟨_, by rw [e1]; rfl, ?_, (((Ch.refl w _).alloc _).then_ C1.out (fun k hk => .inr (by omega))).then_ C2.out (fun _ h => h.elim)⟩
          rw [e1, e2]
          exact e3
    · simp [tcells, h4] at c0 c1 c2 c3 c4
      have H4 := Aside0.mk h4
      clear hg hCb hCl hcb hcl h4
      go_enter Try.func14, Try.ntmps14
      go_wp2_with fail
      go_ret2
      have e1 : (t.side 1).lost = true := H4.out
      refine ⟨_, by rw [e1]; rfl, ?_, Ch.refl _ _⟩
      rw [e1]
      exact Kd.R_nil _ _ _ _ _
  · omega
end Go.Proofs.Ytgehempmccponaa
