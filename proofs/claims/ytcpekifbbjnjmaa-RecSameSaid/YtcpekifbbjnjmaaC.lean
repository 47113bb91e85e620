/- A writer in memory, and what its calls change; (*writer).num, key, ints. -/
import Derived.Test.YtcpekifbbjnjmaaB
set_option linter.unusedVariables false
namespace Go.Proofs.Ytcpekifbbjnjmaa
open Go.RowKit Go.Proofs.YtcpekifbbjnjmaaW.PrintWords Go.Proofs.YtcpekifbbjnjmaaW.PrintLast Go.Proofs.YtcpekifbbjnjmaaW.PrintMore Go.Proofs.Ytcpekifbbjnjmaa.PRecBack
abbrev B8 : Kd Int := Kd.int .u8
/-- A block of bytes, of a writer or of a reader, from base on. -/
def Bt (base : Nat) (w : World) (k : Nat) : Prop := base ≤ k ∧ ∃ q, (q = 5 ∨ q = 47 ∨ q = 55 ∨ q = 57) ∧ ∃ cells, w.heap[k]? = some (.cells cells q (0, 0))
/-- Of the old blocks only such ones may be others. -/
def TC (base : Nat) (w W : World) : Prop := Ch w W (Bt base w)
section
variable {base g : Nat} {w W W2 w0 : World}
theorem TC.refl (base : Nat) (w : World) : TC base w w := Ch.refl w _
theorem TC.then_ (h : TC base w W) (k : TC base W W2) : TC base w W2 := Ch.then_ h k fun i hi => by
  by_cases hlt : i < w.heap.size
  · refine .inl (Classical.byContradiction fun hn => ?_)
    obtain ⟨hb, q, hq, cells, hc⟩ := hi
    rw [h.block i hlt hn] at hc
    exact hn ⟨hb, q, hq, cells, hc⟩
  · exact .inr (by omega)
theorem TC.alloc (h : TC base w W) (o : Obj) : TC base w (W.alloc o) := Ch.alloc h o
theorem TC.drew (h : TC base w W) : TC base w W.drew := Ch.drew h
theorem TC.drewN (h : TC base w W) (m : Nat) : TC base w (W.drewN m) := Ch.drewN h m
theorem TC.blk {t : TypeId} {cs : Array Value} (h : TC base w W) (hb : w.heap[g]? = some (.cells cs t (0, 0))) (ht : t ≠ 5 ∧ t ≠ 47 ∧ t ≠ 55 ∧ t ≠ 57) : W.heap[g]? = some (.cells cs t (0, 0)) :=
  Ch.blk h hb fun ⟨_, q, hq, cells, hc⟩ => by
    rw [hb] at hc
    injection hc with hc
    injection hc with _ hc _
    subst hc
    rcases hq with rfl | rfl | rfl | rfl
    · exact ht.1 rfl
    · exact ht.2.1 rfl
    · exact ht.2.2.1 rfl
    · exact ht.2.2.2 rfl
theorem TC.below (h : TC base w W) (hb : base ≤ w.heap.size) : Below base w W := Ch.below h hb fun _ hk => hk.1
theorem TC.of_quiet (h : Below w.heap.size w W) (base : Nat) : TC base w W := Ch.of_below h _
theorem TC.size (h : TC base w W) : w.heap.size ≤ W.heap.size := Ch.size h
theorem TC.set {t : TypeId} {cs : Array Value} (hg : base ≤ g) (hb : w.heap[g]? = some (.cells cs t (0, 0))) (ht : t = 5 ∨ t = 47 ∨ t = 55 ∨ t = 57) (i : Nat) (u : Value) : TC base w (w.setCell ⟨g, i, none⟩ u) :=
  (Ch.refl w _).setCell (p := ⟨g, i, none⟩) (.inl ⟨hg, t, ht, cs, hb⟩) u
theorem TC.lower {b2 : Nat} (h : TC base w W) (hb : b2 ≤ base) : TC b2 w W := Ch.mono h fun k hk => ⟨Nat.le_trans hb hk.1, hk.2⟩
end
/-- A writer (or a reader, or the reference's) in memory. -/
structure Wr (T : Nat) (w0 W : World) (g : Nat) (bs : List Int) (bad : Bool) : Prop where
  ge : w0.heap.size ≤ g
  bel : Below w0.heap.size w0 W
  mem : ∃ v, W.heap[g]? = some (.cells #[v, .bool bad] T (0, 0)) ∧ B8.R 5 W w0.heap.size (fun _ => True) v bs
theorem Ch_of_kept {B : Nat} {w0 w W : World} {S : Nat → Prop} (h : Kept w W S) (h1 : Below B w0 w) (h2 : Below B w0 W) : Ch w W S :=
  ⟨h2.os.trans h1.os.symm, h2.tape.trans h1.tape.symm, h2.output.trans h1.output.symm, h.1, h.2⟩
theorem Wr.alloc {T : Nat} {w0 W : World} {g : Nat} {bs : List Int} {bad : Bool} (h : Wr T w0 W g bs bad) (o : Obj) : Wr T w0 (W.alloc o) g bs bad := by
  obtain ⟨hg, hb, v, hm, hr⟩ := h
  refine ⟨hg, hb.alloc (by have := hb.size; omega) o, v, ?_, Kd.R_alloc hr o⟩
  rw [Below.heap_alloc _ _ _ (blk_lt hm)]
  exact hm
theorem Wr.drew {T : Nat} {w0 W : World} {g : Nat} {bs : List Int} {bad : Bool} (h : Wr T w0 W g bs bad) : Wr T w0 W.drew g bs bad := by
  obtain ⟨hg, hb, v, hm, hr⟩ := h
  exact ⟨hg, below_drew hb, v, hm, Kd.R_drew hr⟩
theorem Wr.drewN {T : Nat} {w0 W : World} {g : Nat} {bs : List Int} {bad : Bool} (h : Wr T w0 W g bs bad) (m : Nat) : Wr T w0 (W.drewN m) g bs bad := by
  obtain ⟨hg, hb, v, hm, hr⟩ := h
  exact ⟨hg, pw_below_drewN hb m, v, hm, Kd.R_drewN hr m⟩
/-- The bad mark is set. -/
theorem Wr.mark {T : Nat} {w0 W : World} {g : Nat} {bs : List Int} {bad : Bool} (h : Wr T w0 W g bs bad) (hT : 5 ≠ T) (b : Bool) : Wr T w0 (W.setCell ⟨g, 1, none⟩ (.bool b)) g bs b := by
  obtain ⟨hg, hb, v, hm, hr⟩ := h
  exact ⟨hg, hb.setCell hg _, v, blk_set hm 1 _, Kd.R_set hr hm (by simpa [Kd.int, Kd.scalar] using hT) 1 _⟩
theorem Wr.markTC {T : Nat} {w0 W : World} {g : Nat} {bs : List Int} {bad : Bool} (h : Wr T w0 W g bs bad) (hT : T = 5 ∨ T = 47 ∨ T = 55 ∨ T = 57) (b : Bool) : TC w0.heap.size W (W.setCell ⟨g, 1, none⟩ (.bool b)) := by
  obtain ⟨hg, hb, v, hm, hr⟩ := h
  exact TC.set hg hm hT _ _
/-- What a call has made of the bytes is stored. -/
theorem Wr.put {T : Nat} {w0 W W1 : World} {g : Nat} {bs ys : List Int} {bad : Bool} {v v1 : Value} (hT : T = 47 ∨ T = 55 ∨ T = 57) (hg : w0.heap.size ≤ g) (hb : Below w0.heap.size w0 W) (hm : W.heap[g]? = some (.cells #[v, .bool bad] T (0, 0)))
    (hr : B8.R 5 W w0.heap.size (fun _ => True) v bs) (h1 : B8.R 5 W1 w0.heap.size (fun _ => True) v1 ys) (hc : Ch W W1 (fun k => v.ownBlock = some k)) :
    Wr T w0 (W1.setCell ⟨g, 0, none⟩ v1) g ys bad ∧ TC w0.heap.size W (W1.setCell ⟨g, 0, none⟩ v1) := by
  have hT5 : 5 ≠ T := by omega
  have hne : ¬ v.ownBlock = some g := fun e => (Kd.R_ne hr hm hT5) e.symm
  have hm1 := hc.blk hm hne
  have hb1 : Below w0.heap.size w0 W1 := hb.trans (hc.below hb.size (fun k hk => Kd.R_base hr k hk))
  refine ⟨⟨hg, hb1.setCell hg _, v1, blk_set hm1 0 _, Kd.R_set h1 hm1 (by simpa [Kd.int, Kd.scalar] using hT5) 0 _⟩, ?_⟩
  have t1 : TC w0.heap.size W W1 := hc.mono fun k hk => ⟨Kd.R_base hr k hk, 5, .inl rfl, Kd.R_typed hr k hk⟩
  exact t1.then_ (TC.set hg hm1 (.inr hT) 0 v1)
def Wrote (T : Nat) (w0 : World) (g : Nat) (bs : List Int) (bad : Bool) (w : World) (e : Ending) (w' : World) : Prop :=
  e = .returned (.tuple #[]) ∧ Wr T w0 w' g bs bad ∧ TC w0.heap.size w w'
set_option maxHeartbeats 2000000 in
theorem num_calls (w0 W : World) (g : Nat) (bs : List Int) (bad : Bool) (v z : Int) (n : Nat) (most : Int) (h : Wr 47 w0 W g bs bad) (hn : n = 1 ∨ n = 2 ∨ n = 4) (hz : z = n) (hl : bs.length + n ≤ 140737488355328) :
    Calls Try.prog 16 #[.pointer (some ⟨g, 0, none⟩), .int .i64 v, .int .i64 z, .int .i64 most] W (Wrote 47 w0 g (bs ++ Tok.b (.num v n most)) (bad || Tok.bad (.num v n most)) W) := by
  subst hz
  have K : ∀ W1 u b, W1 = W.setCell ⟨g, 1, none⟩ (.bool b) → W.heap[g]? = some (.cells #[u, .bool bad] 47 (0, 0)) → B8.R 5 W w0.heap.size (fun _ => True) u bs →
      Calls Try.prog 42 #[u, .int .u64 (u64 v), .int .i64 n] W1 fun e w' => ∃ A1 m1 c1, e = .returned (.slice A1 m1 c1) ∧ Wr 47 w0 (w'.setCell ⟨g, 0, none⟩ (.slice A1 m1 c1)) g (bs ++ Tok.b (.num v n most)) b ∧ TC w0.heap.size W (w'.setCell ⟨g, 0, none⟩ (.slice A1 m1 c1)) ∧ w'.cell? ⟨g, 0, none⟩ = some u ∧ w'.frozen? ⟨g, 0, none⟩ = false := fun W1 u b e hm hr => by
    subst e
    have hm1 := blk_set hm 1 (.bool b)
    have hr1 := Kd.R_set hr hm (by simp [Kd.int, Kd.scalar]) 1 (.bool b)
    have hb1 := h.bel.setCell (p := ⟨g, 1, none⟩) h.ge (.bool b)
    refine (hash_Put.calls (n + 1) (fun k => some k = u.ownBlock) u bs (u64 v) n _ w0 _ hb1 (Kd.R_tight rfl hr1) (put_f (u64 v) n bs (by omega) hl)).mono ?_
    rintro e w' ⟨v1, rfl, hr2, hb2, hk2⟩
    have hc : Ch (W.setCell ⟨g, 1, none⟩ (.bool b)) w' (fun k => u.ownBlock = some k) := (Ch_of_kept hk2 hb1 hb2).mono (fun k hk => hk.symm)
    obtain ⟨p1, p2⟩ := Wr.put (T := 47) (.inl rfl) h.ge hb1 hm1 hr1 (Kd.R_mono hr2 (fun _ _ => trivial)) hc
    have hm2 := hc.blk hm1 (fun e => (Kd.R_ne hr1 hm1 (by decide)) e.symm)
    obtain ⟨A1, c1, rfl⟩ := Kd.R_slice hr2
    exact ⟨A1, _, c1, rfl, p1, (h.markTC (by omega) b).then_ p2, blk_cell hm2 0, blk_frozen hm2 0⟩
  obtain ⟨hg, hb, u, hm, hr⟩ := h
  have c0 : W.cell? ⟨g, 0, none⟩ = some u := blk_cell hm 0
  have c1 : W.cell? ⟨g, 1, none⟩ = some (.bool bad) := blk_cell hm 1
  have f0 : W.frozen? ⟨g, 0, none⟩ = false := blk_frozen hm 0
  have f1 : W.frozen? ⟨g, 1, none⟩ = false := blk_frozen hm 1
  have HM := Aside0.mk hm
  obtain ⟨A, c, rfl, _, _⟩ := R_open hr
  have HR := Aside0.mk hr
  have KK := Aside0.mk K
  clear K hm hr hb hn hl
  have hu : IntKind.u64.wrap v = u64 v := rfl
  cases bad with
  | true =>
    go_enter Try.func16, Try.ntmps16
    go_wp2_with (go_at_call 42; go_must (refine (KK.out _ _ true rfl HM.out HR.out).mono ?_; rintro e w1 ⟨A1, m1, c1, rfl, h1, h2, d0, e0⟩; have H1 := Aside0.mk h1; have H2 := Aside0.mk h2; clear h1 h2))
    go_end0
    exact ⟨rfl, by rw [Bool.true_or]; exact H1.out, H2.out⟩
  | false =>
    by_cases hv : v < 0
    · have hv1 : decide (v < 0) = true := decide_eq_true hv
      have ev : Aside0 (Tok.bad (.num v n most) = true) := ⟨by simp [Tok.bad, hv]⟩
      go_enter Try.func16, Try.ntmps16
      go_wp2_with (go_at_call 42; go_must (refine (KK.out _ _ true rfl HM.out HR.out).mono ?_; rintro e w1 ⟨A1, m1, c1, rfl, h1, h2, d0, e0⟩; have H1 := Aside0.mk h1; have H2 := Aside0.mk h2; clear h1 h2))
      go_end0
      exact ⟨rfl, by rw [ev.out]; exact H1.out, H2.out⟩
    · have hv1 : decide (v < 0) = false := decide_eq_false hv
      by_cases hm : most < v
      · have hm1 : decide (most < v) = true := decide_eq_true hm
        have ev : Aside0 (Tok.bad (.num v n most) = true) := ⟨by simp [Tok.bad, hm]⟩
        go_enter Try.func16, Try.ntmps16
        go_wp2_with (go_at_call 42; go_must (refine (KK.out _ _ true rfl HM.out HR.out).mono ?_; rintro e w1 ⟨A1, m1, c1, rfl, h1, h2, d0, e0⟩; have H1 := Aside0.mk h1; have H2 := Aside0.mk h2; clear h1 h2))
        go_end0
        exact ⟨rfl, by rw [ev.out]; exact H1.out, H2.out⟩
      · have hm1 : decide (most < v) = false := decide_eq_false hm
        have ev : Aside0 (Tok.bad (.num v n most) = false) := ⟨by simp [Tok.bad]; omega⟩
        go_enter Try.func16, Try.ntmps16
        go_wp2_with (go_at_call 42; go_must (refine (KK.out _ _ false rfl HM.out HR.out).mono ?_; rintro e w1 ⟨A1, m1, c1, rfl, h1, h2, d0, e0⟩; have H1 := Aside0.mk h1; have H2 := Aside0.mk h2; clear h1 h2))
        go_end0
        exact ⟨rfl, by rw [ev.out]; exact H1.out, H2.out⟩
end Go.Proofs.Ytcpekifbbjnjmaa
