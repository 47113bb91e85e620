/- Crash. -/
import Derived.Test.YtgehempmccponaaF
import Derived.StillTailTactics
set_option linter.unusedVariables false
namespace Go.Proofs.Ytgehempmccponaa
open Go.RowKit Go.Proofs.YtgehempmccponaaW.PrintWords Go.Proofs.YtgehempmccponaaW.PrintLast Go.Proofs.YtgehempmccponaaW.PrintMore
theorem hi5 : ∃ i, Try.prog.info? 5 = some i := by
  obtain ⟨i, hi, _⟩ := Option.map_eq_some_iff.1 inf5
  exact ⟨i, hi⟩
theorem apply_calls' (g o t : Nat) (cs : Array Value) (v : Value) (xs : List Int) (A : Option Addr) (m c : Nat) (bs ys : List Int) (swap : Bool) (w : World) (base : Nat) (ok : Nat → Prop)
    (hg : w.heap[g]? = some (.cells cs t (0, 0))) (ho : cs[o]? = some v) (ht : 5 ≠ t) (hv : B8.R 5 w base ok v xs) (hA : ∀ w', Ch w w' (fun k => k = g) → B8.C w' A m bs)
    (hl : xs.length ≤ 1000000) (hl2 : bs.length ≤ 1000000) (hy : ys = (if swap then [] else xs) ++ bs) :
    Calls Try.prog 18 #[.pointer (some ⟨g, o, none⟩), .slice A m c, .bool swap] w (ApplyTo g o t cs ys w) := by
  obtain rfl : bs.length = m := (hA w (Ch.refl _ _)).1
  exact apply_calls g o t cs v xs A c bs ys swap w base ok hg ho ht hv hA hl hl2 hy
theorem C_of_row {w w' : World} {base g t m c : Nat} {ok : Nat → Prop} {A : Option Addr} {ys : List Int} {cs : Array Value} (h : B8.R 5 w base ok (.slice A m c) ys) (hg : w.heap[g]? = some (.cells cs t (0, 0))) (ht : 5 ≠ t) (hc : Ch w w' (fun k => k = g)) : B8.C w' A m ys := by
  have := Kd.R_reads' (row_keep h hg ht hc)
  rw [this.1]
  exact this.2.2
def odd (keep : Int) : Bool := bits .and .i64 keep 1 == 1
def clamp (keep : Int) (n : Nat) : Nat := if keep < 0 then 0 else if keep ≤ n then keep.toNat else n
def crashS (s : Sd) (keep : Int) : Sd :=
  { s with b := if s.wet = false then s.b else if s.swap = false then s.b ++ s.l.take (clamp keep s.l.length) else if odd keep then s.l else s.b, l := [], wet := false }
def crashF (t : Tp) (keep : Int) : Tp := ⟨crashS t.s0 keep, crashS t.s1 keep, -1, false⟩
def crash1 (t : Tp) (keep : Int) : Tp := { t with s0 := crashS t.s0 keep }
def crash2 (t : Tp) (keep : Int) : Tp := { t with s0 := crashS t.s0 keep, s1 := crashS t.s1 keep }
def RelC (t : Tp) (keep : Int) (k : Nat) (tt : Tp) : Prop := (k = 0 ∧ t = tt) ∨ (k = 1 ∧ tt = crash1 t keep) ∨ (k = 2 ∧ tt = crash2 t keep)
set_option maxHeartbeats 1000000 in
theorem crash_calls (g : Nat) (t : Tp) (keep : Int) (w : World) (base : Nat) (ok : Nat → Prop) (ht : TapeM w base ok g t) (hs1 : t.s0.b.length ≤ 1000000) (hs2 : t.s0.l.length ≤ 1000000) (hs3 : t.s1.b.length ≤ 1000000) (hs4 : t.s1.l.length ≤ 1000000) (hb : base ≤ w.heap.size) :
    Calls Try.prog 10 #[.pointer (some ⟨g, 0, none⟩), .int .i64 keep] w (ActTo g (crashF t keep) w base ok) := by
  have HT := Aside0.mk ht
  clear ht
  go_enter Try.func10, Try.ntmps10
  go_wp2_with fail
  go_loopw [8] (fun v w' => ∃ (k : Nat) (tt : Tp), v = .int .i64 k ∧ Aside0 (RelC t keep k tt) ∧ Aside0 (TapeM w' base (fun j => ok j ∨ w.heap.size ≤ j) g tt) ∧ Aside0 (Ch w w' (fun j => j = g))) (fun v _ => 2 - (intOf v).toNat)
  case atStart => exact ⟨0, t, rfl, ⟨.inl ⟨rfl, rfl⟩⟩, ⟨HT.out.mono (fun _ h => .inl h)⟩, ⟨Ch.refl _ _⟩⟩
  case round =>
    obtain ⟨k, tt, rfl, HK, HM, HC⟩ := hrel
    obtain ⟨v, hg, hr⟩ := HM.out
    rcases HK.out with ⟨rfl, rfl⟩ | ⟨rfl, rfl⟩ | ⟨rfl, rfl⟩
    · have HG := Aside0.mk hg
      have HR := Aside0.mk hr
      clear hr
      obtain ⟨vb0, vl0, vb1, vl1⟩ := v
      have hrl : B8.R 5 wr base (fun j => ok j ∨ w.heap.size ≤ j) vl0 t.s0.l := HR.out.l0
      obtain ⟨Al, cl, hl, hcl, hCl⟩ := R_open hrl

      subst hl
      have hfr : ∀ i, wr.frozen? ⟨g, i, none⟩ = false := fun i => blk_frozen HG.out i
      have HC0 := Aside0.mk hCl
      have HB : Aside0 (B8.R 5 wr base (fun j => ok j ∨ w.heap.size ≤ j) vb0 t.s0.b) := ⟨HR.out.b0⟩
      have HL := Aside0.mk hrl
      clear hrl
      have c0 := blk_cell hg 0
      have c1 := blk_cell hg 1
      have c2 := blk_cell hg 2
      have c3 := blk_cell hg 3
      simp [tcells] at c0 c1 c2 c3
      clear hg hCl
      rcases h3 : t.s0.wet with _ | _
      · have H3 := Aside0.mk h3
        simp [h3] at c3
        clear h3
        go_wp2_with fail
        have CW := ((Ch.refl wr (fun j => j = g)).setCell (p := ⟨g, 1, none⟩) (.inl rfl) (.slice none 0 0)).setCell (p := ⟨g, 3, none⟩) (.inl rfl) (.bool false)
        have R := HR.out.keep HG.out (by decide) CW
        have e : crashS t.s0 keep = { t.s0 with l := [], wet := false } := by simp [crashS, H3.out]
        have TM : TapeM ((wr.setCell ⟨g, 1, none⟩ (.slice none 0 0)).setCell ⟨g, 3, none⟩ (.bool false)) base (fun j => ok j ∨ w.heap.size ≤ j) g (crash1 t keep) := by
          unfold crash1
          rw [e]
          exact ⟨⟨vb0, .slice none 0 0, vb1, vl1⟩, blk_set (blk_set HG.out 1 _) 3 _, ⟨R.b0, Kd.R_nil _ _ _ _ _, R.b1, R.l1⟩⟩
        have TM' := Aside0.mk TM
        have CF := Aside0.mk (HC.out.then_ CW (fun _ h => .inl h))
        clear TM CW R e
        go_roundw
        case rel => exact ⟨1, _, by go_num, ⟨.inr (.inl ⟨rfl, rfl⟩)⟩, TM', CF⟩
        case measure => simp [intOf]
      · rcases h2 : t.s0.swap with _ | _
        · have H3 := Aside0.mk h3
          have H2 := Aside0.mk h2
          simp [h3, h2] at c3 c2
          clear h3 h2
          have hn0 : ((t.s0.l.length : Int) < 0) = False := eq_false (by omega)
          by_cases hk0 : keep < 0
          · have ecl : clamp keep t.s0.l.length = 0 := by simp [clamp, hk0]
            have hsl := cut_to (P := Try.prog) 27 5 .i64 Try.underlying27 hi5.choose_spec Al t.s0.l.length cl 0 (by omega) (by omega) hcl
            obtain ⟨bs, hbs⟩ : ∃ bs, bs = t.s0.l.take (clamp keep t.s0.l.length) := ⟨_, rfl⟩
            have hbl : bs.length ≤ 1000000 := by rw [hbs]; simp; omega
            have HBL := Aside0.mk hbl
            clear hbl
            obtain ⟨ys, hy⟩ : ∃ ys, ys = (if false = true then [] else t.s0.b) ++ bs := ⟨_, rfl⟩
            have HE : Aside0 (crashS t.s0 keep = { t.s0 with b := ys, l := [], wet := false }) := ⟨by rw [hy, hbs]; simp [crashS, H3.out, H2.out]⟩
            have L2 : Aside0 (B8.R 5 wr.drew base (fun j => ok j ∨ w.heap.size ≤ j) (.slice Al 0 cl) bs) := ⟨by rw [hbs, ecl]; exact Kd.R_take (w := wr) HL.out (by omega)⟩
            have HY := Aside0.mk hy
            have D := Aside0.mk ((Ch.refl wr (fun _ => False)).drew)
            have G2 : Aside0 (wr.drew.heap[g]? = some (.cells (tcells _ t) 49 (0, 0))) := ⟨HG.out⟩
            clear hy hbs ecl
            try simp only [Int.toNat_natCast] at hsl
            try simp only [Int.toNat_zero] at hsl
            go_wp2_with fail
            go_still_tail 14, (by kernel_rfl)
            change wpList _ _ _ _ _ wr.drew
            clear c0 c1 c2 c3
            generalize hw2 : wr.drew = w2 at L2 D G2 ⊢
            clear hw2
            go_wp2_with (go_at_call 18; go_must (refine (apply_calls' g 0 49 (tcells _ t) vb0 t.s0.b Al 0 cl bs ys false _ base _ G2.out rfl (by decide) (D.out.R HB.out (fun _ _ h => h)) (fun w' h => C_of_row L2.out G2.out (by decide) h) (by omega) (by have := HBL.out; omega) HY.out).mono ?_; rintro e w1 ⟨rfl, v1, hb1, ho1, hc1⟩; obtain ⟨A2, q2, rfl⟩ := Kd.R_slice ho1; have B1 := Aside0.mk hb1; have H1 := Aside0.mk ho1; have C1 := Aside0.mk hc1; have d1 := blk_cell hb1 1; have d3 := blk_cell hb1 3; have hf1 : ∀ i, w1.frozen? ⟨g, i, none⟩ = false := (fun i => blk_frozen B1.out i); simp [tcells] at d1 d3; clear hb1 ho1 hc1))
            have CW := Aside0.mk ((((D.out.mono (S' := fun j => j = g) (fun _ h => h.elim)).then_ C1.out (fun _ h => .inl h)).setCell (p := ⟨g, 1, none⟩) (.inl rfl) (.slice none 0 0)).setCell (p := ⟨g, 3, none⟩) (.inl rfl) (.bool false))
            have R := HR.out.keep HG.out (by decide) CW.out
            have e : crashS t.s0 keep = { t.s0 with b := ys, l := [], wet := false } := HE.out
            have C2 := ((Ch.refl w1 (fun j => j = g)).setCell (p := ⟨g, 1, none⟩) (.inl rfl) (.slice none 0 0)).setCell (p := ⟨g, 3, none⟩) (.inl rfl) (.bool false)
            have N1 := new_row' (ok := ok) (row_keep H1.out B1.out (by decide) C2) hb (Nat.le_trans HC.out.size D.out.size)
            have TM : TapeM ((w1.setCell ⟨g, 1, none⟩ (.slice none 0 0)).setCell ⟨g, 3, none⟩ (.bool false)) base (fun j => ok j ∨ w.heap.size ≤ j) g (crash1 t keep) := by
              unfold crash1
              rw [e]
              exact ⟨⟨(.slice A2 ys.length q2), .slice none 0 0, vb1, vl1⟩, blk_set (blk_set B1.out 1 _) 3 _, ⟨N1, Kd.R_nil _ _ _ _ _, R.b1, R.l1⟩⟩
            have TM' := Aside0.mk TM
            have CF := Aside0.mk (HC.out.then_ CW.out (fun _ h => .inl h))
            clear TM CW R e C2 N1
            go_roundw
            case rel => exact ⟨1, _, by go_num, ⟨.inr (.inl ⟨rfl, rfl⟩)⟩, TM', CF⟩
            case measure => simp [intOf]
          have hk1 : ¬ keep < 0 := hk0
          by_cases hk2 : keep ≤ (t.s0.l.length : Int)
          · have ecl : clamp keep t.s0.l.length = keep.toNat := by simp [clamp, hk1, hk2]
            have hk4 : (keep < 0) = False := eq_false hk1
            have hk3 : ((t.s0.l.length : Int) < keep) = False := eq_false (by omega)
            have hsl := cut_to (P := Try.prog) 27 5 .i64 Try.underlying27 hi5.choose_spec Al t.s0.l.length cl keep (by omega) (by omega) hcl
            obtain ⟨bs, hbs⟩ : ∃ bs, bs = t.s0.l.take (clamp keep t.s0.l.length) := ⟨_, rfl⟩
            have hbl : bs.length ≤ 1000000 := by rw [hbs]; simp; omega
            have HBL := Aside0.mk hbl
            clear hbl
            obtain ⟨ys, hy⟩ : ∃ ys, ys = (if false = true then [] else t.s0.b) ++ bs := ⟨_, rfl⟩
            have HE : Aside0 (crashS t.s0 keep = { t.s0 with b := ys, l := [], wet := false }) := ⟨by rw [hy, hbs]; simp [crashS, H3.out, H2.out]⟩
            have L2 : Aside0 (B8.R 5 wr.drew base (fun j => ok j ∨ w.heap.size ≤ j) (.slice Al keep.toNat cl) bs) := ⟨by rw [hbs, ecl]; exact Kd.R_take (w := wr) HL.out (by omega)⟩
            have HY := Aside0.mk hy
            have D := Aside0.mk ((Ch.refl wr (fun _ => False)).drew)
            have G2 : Aside0 (wr.drew.heap[g]? = some (.cells (tcells _ t) 49 (0, 0))) := ⟨HG.out⟩
            clear hy hbs ecl
            try simp only [Int.toNat_natCast] at hsl
            try simp only [Int.toNat_zero] at hsl
            go_wp2_with fail
            go_still_tail 14, (by kernel_rfl)
            change wpList _ _ _ _ _ wr.drew
            clear c0 c1 c2 c3
            generalize hw2 : wr.drew = w2 at L2 D G2 ⊢
            clear hw2
            go_wp2_with (go_at_call 18; go_must (refine (apply_calls' g 0 49 (tcells _ t) vb0 t.s0.b Al keep.toNat cl bs ys false _ base _ G2.out rfl (by decide) (D.out.R HB.out (fun _ _ h => h)) (fun w' h => C_of_row L2.out G2.out (by decide) h) (by omega) (by have := HBL.out; omega) HY.out).mono ?_; rintro e w1 ⟨rfl, v1, hb1, ho1, hc1⟩; obtain ⟨A2, q2, rfl⟩ := Kd.R_slice ho1; have B1 := Aside0.mk hb1; have H1 := Aside0.mk ho1; have C1 := Aside0.mk hc1; have d1 := blk_cell hb1 1; have d3 := blk_cell hb1 3; have hf1 : ∀ i, w1.frozen? ⟨g, i, none⟩ = false := (fun i => blk_frozen B1.out i); simp [tcells] at d1 d3; clear hb1 ho1 hc1))
            have CW := Aside0.mk ((((D.out.mono (S' := fun j => j = g) (fun _ h => h.elim)).then_ C1.out (fun _ h => .inl h)).setCell (p := ⟨g, 1, none⟩) (.inl rfl) (.slice none 0 0)).setCell (p := ⟨g, 3, none⟩) (.inl rfl) (.bool false))
            have R := HR.out.keep HG.out (by decide) CW.out
            have e : crashS t.s0 keep = { t.s0 with b := ys, l := [], wet := false } := HE.out
            have C2 := ((Ch.refl w1 (fun j => j = g)).setCell (p := ⟨g, 1, none⟩) (.inl rfl) (.slice none 0 0)).setCell (p := ⟨g, 3, none⟩) (.inl rfl) (.bool false)
            have N1 := new_row' (ok := ok) (row_keep H1.out B1.out (by decide) C2) hb (Nat.le_trans HC.out.size D.out.size)
            have TM : TapeM ((w1.setCell ⟨g, 1, none⟩ (.slice none 0 0)).setCell ⟨g, 3, none⟩ (.bool false)) base (fun j => ok j ∨ w.heap.size ≤ j) g (crash1 t keep) := by
              unfold crash1
              rw [e]
              exact ⟨⟨(.slice A2 ys.length q2), .slice none 0 0, vb1, vl1⟩, blk_set (blk_set B1.out 1 _) 3 _, ⟨N1, Kd.R_nil _ _ _ _ _, R.b1, R.l1⟩⟩
            have TM' := Aside0.mk TM
            have CF := Aside0.mk (HC.out.then_ CW.out (fun _ h => .inl h))
            clear TM CW R e C2 N1
            go_roundw
            case rel => exact ⟨1, _, by go_num, ⟨.inr (.inl ⟨rfl, rfl⟩)⟩, TM', CF⟩
            case measure => simp [intOf]
          · have ecl : clamp keep t.s0.l.length = t.s0.l.length := by simp [clamp, hk1, hk2]
            have hk4 : (keep < 0) = False := eq_false hk1
            have hk3 : ((t.s0.l.length : Int) < keep) = True := eq_true (by omega)
            have hsl := cut_to (P := Try.prog) 27 5 .i64 Try.underlying27 hi5.choose_spec Al t.s0.l.length cl (t.s0.l.length : Int) (by omega) (by omega) hcl
            obtain ⟨bs, hbs⟩ : ∃ bs, bs = t.s0.l.take (clamp keep t.s0.l.length) := ⟨_, rfl⟩
            have hbl : bs.length ≤ 1000000 := by rw [hbs]; simp; omega
            have HBL := Aside0.mk hbl
            clear hbl
            obtain ⟨ys, hy⟩ : ∃ ys, ys = (if false = true then [] else t.s0.b) ++ bs := ⟨_, rfl⟩
            have HE : Aside0 (crashS t.s0 keep = { t.s0 with b := ys, l := [], wet := false }) := ⟨by rw [hy, hbs]; simp [crashS, H3.out, H2.out]⟩
            have L2 : Aside0 (B8.R 5 wr.drew base (fun j => ok j ∨ w.heap.size ≤ j) (.slice Al t.s0.l.length cl) bs) := ⟨by rw [hbs, ecl]; exact Kd.R_take (w := wr) HL.out (by omega)⟩
            have HY := Aside0.mk hy
            have D := Aside0.mk ((Ch.refl wr (fun _ => False)).drew)
            have G2 : Aside0 (wr.drew.heap[g]? = some (.cells (tcells _ t) 49 (0, 0))) := ⟨HG.out⟩
            clear hy hbs ecl
            try simp only [Int.toNat_natCast] at hsl
            try simp only [Int.toNat_zero] at hsl
            go_wp2_with fail
            go_still_tail 14, (by kernel_rfl)
            change wpList _ _ _ _ _ wr.drew
            clear c0 c1 c2 c3
            generalize hw2 : wr.drew = w2 at L2 D G2 ⊢
            clear hw2
            go_wp2_with (go_at_call 18; go_must (refine (apply_calls' g 0 49 (tcells _ t) vb0 t.s0.b Al t.s0.l.length cl bs ys false _ base _ G2.out rfl (by decide) (D.out.R HB.out (fun _ _ h => h)) (fun w' h => C_of_row L2.out G2.out (by decide) h) (by omega) (by have := HBL.out; omega) HY.out).mono ?_; rintro e w1 ⟨rfl, v1, hb1, ho1, hc1⟩; obtain ⟨A2, q2, rfl⟩ := Kd.R_slice ho1; have B1 := Aside0.mk hb1; have H1 := Aside0.mk ho1; have C1 := Aside0.mk hc1; have d1 := blk_cell hb1 1; have d3 := blk_cell hb1 3; have hf1 : ∀ i, w1.frozen? ⟨g, i, none⟩ = false := (fun i => blk_frozen B1.out i); simp [tcells] at d1 d3; clear hb1 ho1 hc1))
            have CW := Aside0.mk ((((D.out.mono (S' := fun j => j = g) (fun _ h => h.elim)).then_ C1.out (fun _ h => .inl h)).setCell (p := ⟨g, 1, none⟩) (.inl rfl) (.slice none 0 0)).setCell (p := ⟨g, 3, none⟩) (.inl rfl) (.bool false))
            have R := HR.out.keep HG.out (by decide) CW.out
            have e : crashS t.s0 keep = { t.s0 with b := ys, l := [], wet := false } := HE.out
            have C2 := ((Ch.refl w1 (fun j => j = g)).setCell (p := ⟨g, 1, none⟩) (.inl rfl) (.slice none 0 0)).setCell (p := ⟨g, 3, none⟩) (.inl rfl) (.bool false)
            have N1 := new_row' (ok := ok) (row_keep H1.out B1.out (by decide) C2) hb (Nat.le_trans HC.out.size D.out.size)
            have TM : TapeM ((w1.setCell ⟨g, 1, none⟩ (.slice none 0 0)).setCell ⟨g, 3, none⟩ (.bool false)) base (fun j => ok j ∨ w.heap.size ≤ j) g (crash1 t keep) := by
              unfold crash1
              rw [e]
              exact ⟨⟨(.slice A2 ys.length q2), .slice none 0 0, vb1, vl1⟩, blk_set (blk_set B1.out 1 _) 3 _, ⟨N1, Kd.R_nil _ _ _ _ _, R.b1, R.l1⟩⟩
            have TM' := Aside0.mk TM
            have CF := Aside0.mk (HC.out.then_ CW.out (fun _ h => .inl h))
            clear TM CW R e C2 N1
            go_roundw
            case rel => exact ⟨1, _, by go_num, ⟨.inr (.inl ⟨rfl, rfl⟩)⟩, TM', CF⟩
            case measure => simp [intOf]
        · have H3 := Aside0.mk h3
          have H2 := Aside0.mk h2
          simp [h3, h2] at c3 c2
          clear h3 h2
          by_cases hk : (bits .and .i64 keep 1 == 1) = true
          · obtain ⟨bs, hbs⟩ : ∃ bs, bs = t.s0.l := ⟨_, rfl⟩
            have HBL : Aside0 (bs.length ≤ 1000000) := ⟨by rw [hbs]; omega⟩
            obtain ⟨ys, hy⟩ : ∃ ys, ys = (if true = true then [] else t.s0.b) ++ bs := ⟨_, rfl⟩
            have HE : Aside0 (crashS t.s0 keep = { t.s0 with b := ys, l := [], wet := false }) := ⟨by rw [hy, hbs]; simp only [crashS, H3.out, H2.out, odd, hk]; simp⟩
            have L2 : Aside0 (B8.R 5 wr base (fun j => ok j ∨ w.heap.size ≤ j) (.slice Al t.s0.l.length cl) bs) := ⟨by rw [hbs]; exact HL.out⟩
            have HY := Aside0.mk hy
            have D := Aside0.mk (Ch.refl wr (fun _ => False))
            clear hy hbs
            go_wp2_with (go_at_call 18; go_must (refine (apply_calls' g 0 49 (tcells _ t) vb0 t.s0.b Al t.s0.l.length cl bs ys true _ base _ HG.out rfl (by decide) (D.out.R HB.out (fun _ _ h => h)) (fun w' h => C_of_row L2.out HG.out (by decide) h) (by omega) (by have := HBL.out; omega) HY.out).mono ?_; rintro e w1 ⟨rfl, v1, hb1, ho1, hc1⟩; obtain ⟨A2, q2, rfl⟩ := Kd.R_slice ho1; have B1 := Aside0.mk hb1; have H1 := Aside0.mk ho1; have C1 := Aside0.mk hc1; have d1 := blk_cell hb1 1; have d3 := blk_cell hb1 3; have hf1 : ∀ i, w1.frozen? ⟨g, i, none⟩ = false := (fun i => blk_frozen B1.out i); simp [tcells] at d1 d3; clear hb1 ho1 hc1))
            have CW := Aside0.mk ((((D.out.mono (S' := fun j => j = g) (fun _ h => h.elim)).then_ C1.out (fun _ h => .inl h)).setCell (p := ⟨g, 1, none⟩) (.inl rfl) (.slice none 0 0)).setCell (p := ⟨g, 3, none⟩) (.inl rfl) (.bool false))
            have R := HR.out.keep HG.out (by decide) CW.out
            have e : crashS t.s0 keep = { t.s0 with b := ys, l := [], wet := false } := HE.out
            have C2 := ((Ch.refl w1 (fun j => j = g)).setCell (p := ⟨g, 1, none⟩) (.inl rfl) (.slice none 0 0)).setCell (p := ⟨g, 3, none⟩) (.inl rfl) (.bool false)
            have N1 := new_row' (ok := ok) (row_keep H1.out B1.out (by decide) C2) hb (Nat.le_trans HC.out.size D.out.size)
            have TM : TapeM ((w1.setCell ⟨g, 1, none⟩ (.slice none 0 0)).setCell ⟨g, 3, none⟩ (.bool false)) base (fun j => ok j ∨ w.heap.size ≤ j) g (crash1 t keep) := by
              unfold crash1
              rw [e]
              exact ⟨⟨(.slice A2 ys.length q2), .slice none 0 0, vb1, vl1⟩, blk_set (blk_set B1.out 1 _) 3 _, ⟨N1, Kd.R_nil _ _ _ _ _, R.b1, R.l1⟩⟩
            have TM' := Aside0.mk TM
            have CF := Aside0.mk (HC.out.then_ CW.out (fun _ h => .inl h))
            clear TM CW R e C2 N1
            go_roundw
            case rel => exact ⟨1, _, by go_num, ⟨.inr (.inl ⟨rfl, rfl⟩)⟩, TM', CF⟩
            case measure => simp [intOf]
          · replace hk := Bool.eq_false_iff.2 hk
            have HE : Aside0 (crashS t.s0 keep = { t.s0 with l := [], wet := false }) := ⟨by simp only [crashS, H3.out, H2.out, odd, hk]; simp⟩
            go_wp2_with fail
            have CW := ((Ch.refl wr (fun j => j = g)).setCell (p := ⟨g, 1, none⟩) (.inl rfl) (.slice none 0 0)).setCell (p := ⟨g, 3, none⟩) (.inl rfl) (.bool false)
            have R := HR.out.keep HG.out (by decide) CW
            have TM : TapeM ((wr.setCell ⟨g, 1, none⟩ (.slice none 0 0)).setCell ⟨g, 3, none⟩ (.bool false)) base (fun j => ok j ∨ w.heap.size ≤ j) g (crash1 t keep) := by
              unfold crash1
              rw [HE.out]
              exact ⟨⟨vb0, .slice none 0 0, vb1, vl1⟩, blk_set (blk_set HG.out 1 _) 3 _, ⟨R.b0, Kd.R_nil _ _ _ _ _, R.b1, R.l1⟩⟩
            have TM' := Aside0.mk TM
            have CF := Aside0.mk (HC.out.then_ CW (fun _ h => .inl h))
            clear TM CW R
            go_roundw
            case rel => exact ⟨1, _, by go_num, ⟨.inr (.inl ⟨rfl, rfl⟩)⟩, TM', CF⟩
            case measure => simp [intOf]
    · have HG := Aside0.mk hg
      have HR := Aside0.mk hr
      clear hr
      obtain ⟨vb0, vl0, vb1, vl1⟩ := v
      have hrl : B8.R 5 wr base (fun j => ok j ∨ w.heap.size ≤ j) vl1 t.s1.l := HR.out.l1
      obtain ⟨Al, cl, hl, hcl, hCl⟩ := R_open hrl

      subst hl
      have hfr : ∀ i, wr.frozen? ⟨g, i, none⟩ = false := fun i => blk_frozen HG.out i
      have HC0 := Aside0.mk hCl
      have HB : Aside0 (B8.R 5 wr base (fun j => ok j ∨ w.heap.size ≤ j) vb1 t.s1.b) := ⟨HR.out.b1⟩
      have HL := Aside0.mk hrl
      clear hrl
      have c0 := blk_cell hg 5
      have c1 := blk_cell hg 6
      have c2 := blk_cell hg 7
      have c3 := blk_cell hg 8
      simp [tcells, crash1] at c0 c1 c2 c3
      clear hg hCl
      rcases h3 : t.s1.wet with _ | _
      · have H3 := Aside0.mk h3
        simp [h3] at c3
        clear h3
        go_wp2_with fail
        have CW := ((Ch.refl wr (fun j => j = g)).setCell (p := ⟨g, 6, none⟩) (.inl rfl) (.slice none 0 0)).setCell (p := ⟨g, 8, none⟩) (.inl rfl) (.bool false)
        have R := HR.out.keep HG.out (by decide) CW
        have e : crashS t.s1 keep = { t.s1 with l := [], wet := false } := by simp [crashS, H3.out]
        have TM : TapeM ((wr.setCell ⟨g, 6, none⟩ (.slice none 0 0)).setCell ⟨g, 8, none⟩ (.bool false)) base (fun j => ok j ∨ w.heap.size ≤ j) g (crash2 t keep) := by
          unfold crash2
          rw [e]
          exact ⟨⟨vb0, vl0, vb1, .slice none 0 0⟩, blk_set (blk_set HG.out 6 _) 8 _, ⟨R.b0, R.l0, R.b1, Kd.R_nil _ _ _ _ _⟩⟩
        have TM' := Aside0.mk TM
        have CF := Aside0.mk (HC.out.then_ CW (fun _ h => .inl h))
        clear TM CW R e
        go_roundw
        case rel => exact ⟨2, _, by go_num, ⟨.inr (.inr ⟨rfl, rfl⟩)⟩, TM', CF⟩
        case measure => simp [intOf]
      · rcases h2 : t.s1.swap with _ | _
        · have H3 := Aside0.mk h3
          have H2 := Aside0.mk h2
          simp [h3, h2] at c3 c2
          clear h3 h2
          have hn0 : ((t.s1.l.length : Int) < 0) = False := eq_false (by omega)
          by_cases hk0 : keep < 0
          · have ecl : clamp keep t.s1.l.length = 0 := by simp [clamp, hk0]
            have hsl := cut_to (P := Try.prog) 27 5 .i64 Try.underlying27 hi5.choose_spec Al t.s1.l.length cl 0 (by omega) (by omega) hcl
            obtain ⟨bs, hbs⟩ : ∃ bs, bs = t.s1.l.take (clamp keep t.s1.l.length) := ⟨_, rfl⟩
            have hbl : bs.length ≤ 1000000 := by rw [hbs]; simp; omega
            have HBL := Aside0.mk hbl
            clear hbl
            obtain ⟨ys, hy⟩ : ∃ ys, ys = (if false = true then [] else t.s1.b) ++ bs := ⟨_, rfl⟩
            have HE : Aside0 (crashS t.s1 keep = { t.s1 with b := ys, l := [], wet := false }) := ⟨by rw [hy, hbs]; simp [crashS, H3.out, H2.out]⟩
            have L2 : Aside0 (B8.R 5 wr.drew base (fun j => ok j ∨ w.heap.size ≤ j) (.slice Al 0 cl) bs) := ⟨by rw [hbs, ecl]; exact Kd.R_take (w := wr) HL.out (by omega)⟩
            have HY := Aside0.mk hy
            have D := Aside0.mk ((Ch.refl wr (fun _ => False)).drew)
            have G2 : Aside0 (wr.drew.heap[g]? = some (.cells (tcells _ (crash1 t keep)) 49 (0, 0))) := ⟨HG.out⟩
            clear hy hbs ecl
            try simp only [Int.toNat_natCast] at hsl
            try simp only [Int.toNat_zero] at hsl
            go_wp2_with fail
            go_still_tail 14, (by kernel_rfl)
            change wpList _ _ _ _ _ wr.drew
            clear c0 c1 c2 c3
            generalize hw2 : wr.drew = w2 at L2 D G2 ⊢
            clear hw2
            go_wp2_with (go_at_call 18; go_must (refine (apply_calls' g 5 49 (tcells _ (crash1 t keep)) vb1 t.s1.b Al 0 cl bs ys false _ base _ G2.out rfl (by decide) (D.out.R HB.out (fun _ _ h => h)) (fun w' h => C_of_row L2.out G2.out (by decide) h) (by omega) (by have := HBL.out; omega) HY.out).mono ?_; rintro e w1 ⟨rfl, v1, hb1, ho1, hc1⟩; obtain ⟨A2, q2, rfl⟩ := Kd.R_slice ho1; have B1 := Aside0.mk hb1; have H1 := Aside0.mk ho1; have C1 := Aside0.mk hc1; have d1 := blk_cell hb1 6; have d3 := blk_cell hb1 8; have hf1 : ∀ i, w1.frozen? ⟨g, i, none⟩ = false := (fun i => blk_frozen B1.out i); simp [tcells] at d1 d3; clear hb1 ho1 hc1))
            have CW := Aside0.mk ((((D.out.mono (S' := fun j => j = g) (fun _ h => h.elim)).then_ C1.out (fun _ h => .inl h)).setCell (p := ⟨g, 6, none⟩) (.inl rfl) (.slice none 0 0)).setCell (p := ⟨g, 8, none⟩) (.inl rfl) (.bool false))
            have R := HR.out.keep HG.out (by decide) CW.out
            have e : crashS t.s1 keep = { t.s1 with b := ys, l := [], wet := false } := HE.out
            have C2 := ((Ch.refl w1 (fun j => j = g)).setCell (p := ⟨g, 6, none⟩) (.inl rfl) (.slice none 0 0)).setCell (p := ⟨g, 8, none⟩) (.inl rfl) (.bool false)
            have N1 := new_row' (ok := ok) (row_keep H1.out B1.out (by decide) C2) hb (Nat.le_trans HC.out.size D.out.size)
            have TM : TapeM ((w1.setCell ⟨g, 6, none⟩ (.slice none 0 0)).setCell ⟨g, 8, none⟩ (.bool false)) base (fun j => ok j ∨ w.heap.size ≤ j) g (crash2 t keep) := by
              unfold crash2
              rw [e]
              exact ⟨⟨vb0, vl0, (.slice A2 ys.length q2), .slice none 0 0⟩, blk_set (blk_set B1.out 6 _) 8 _, ⟨R.b0, R.l0, N1, Kd.R_nil _ _ _ _ _⟩⟩
            have TM' := Aside0.mk TM
            have CF := Aside0.mk (HC.out.then_ CW.out (fun _ h => .inl h))
            clear TM CW R e C2 N1
            go_roundw
            case rel => exact ⟨2, _, by go_num, ⟨.inr (.inr ⟨rfl, rfl⟩)⟩, TM', CF⟩
            case measure => simp [intOf]
          have hk1 : ¬ keep < 0 := hk0
          by_cases hk2 : keep ≤ (t.s1.l.length : Int)
          · have ecl : clamp keep t.s1.l.length = keep.toNat := by simp [clamp, hk1, hk2]
            have hk4 : (keep < 0) = False := eq_false hk1
            have hk3 : ((t.s1.l.length : Int) < keep) = False := eq_false (by omega)
            have hsl := cut_to (P := Try.prog) 27 5 .i64 Try.underlying27 hi5.choose_spec Al t.s1.l.length cl keep (by omega) (by omega) hcl
            obtain ⟨bs, hbs⟩ : ∃ bs, bs = t.s1.l.take (clamp keep t.s1.l.length) := ⟨_, rfl⟩
            have hbl : bs.length ≤ 1000000 := by rw [hbs]; simp; omega
            have HBL := Aside0.mk hbl
            clear hbl
            obtain ⟨ys, hy⟩ : ∃ ys, ys = (if false = true then [] else t.s1.b) ++ bs := ⟨_, rfl⟩
            have HE : Aside0 (crashS t.s1 keep = { t.s1 with b := ys, l := [], wet := false }) := ⟨by rw [hy, hbs]; simp [crashS, H3.out, H2.out]⟩
            have L2 : Aside0 (B8.R 5 wr.drew base (fun j => ok j ∨ w.heap.size ≤ j) (.slice Al keep.toNat cl) bs) := ⟨by rw [hbs, ecl]; exact Kd.R_take (w := wr) HL.out (by omega)⟩
            have HY := Aside0.mk hy
            have D := Aside0.mk ((Ch.refl wr (fun _ => False)).drew)
            have G2 : Aside0 (wr.drew.heap[g]? = some (.cells (tcells _ (crash1 t keep)) 49 (0, 0))) := ⟨HG.out⟩
            clear hy hbs ecl
            try simp only [Int.toNat_natCast] at hsl
            try simp only [Int.toNat_zero] at hsl
            go_wp2_with fail
            go_still_tail 14, (by kernel_rfl)
            change wpList _ _ _ _ _ wr.drew
            clear c0 c1 c2 c3
            generalize hw2 : wr.drew = w2 at L2 D G2 ⊢
            clear hw2
            go_wp2_with (go_at_call 18; go_must (refine (apply_calls' g 5 49 (tcells _ (crash1 t keep)) vb1 t.s1.b Al keep.toNat cl bs ys false _ base _ G2.out rfl (by decide) (D.out.R HB.out (fun _ _ h => h)) (fun w' h => C_of_row L2.out G2.out (by decide) h) (by omega) (by have := HBL.out; omega) HY.out).mono ?_; rintro e w1 ⟨rfl, v1, hb1, ho1, hc1⟩; obtain ⟨A2, q2, rfl⟩ := Kd.R_slice ho1; have B1 := Aside0.mk hb1; have H1 := Aside0.mk ho1; have C1 := Aside0.mk hc1; have d1 := blk_cell hb1 6; have d3 := blk_cell hb1 8; have hf1 : ∀ i, w1.frozen? ⟨g, i, none⟩ = false := (fun i => blk_frozen B1.out i); simp [tcells] at d1 d3; clear hb1 ho1 hc1))
            have CW := Aside0.mk ((((D.out.mono (S' := fun j => j = g) (fun _ h => h.elim)).then_ C1.out (fun _ h => .inl h)).setCell (p := ⟨g, 6, none⟩) (.inl rfl) (.slice none 0 0)).setCell (p := ⟨g, 8, none⟩) (.inl rfl) (.bool false))
            have R := HR.out.keep HG.out (by decide) CW.out
            have e : crashS t.s1 keep = { t.s1 with b := ys, l := [], wet := false } := HE.out
            have C2 := ((Ch.refl w1 (fun j => j = g)).setCell (p := ⟨g, 6, none⟩) (.inl rfl) (.slice none 0 0)).setCell (p := ⟨g, 8, none⟩) (.inl rfl) (.bool false)
            have N1 := new_row' (ok := ok) (row_keep H1.out B1.out (by decide) C2) hb (Nat.le_trans HC.out.size D.out.size)
            have TM : TapeM ((w1.setCell ⟨g, 6, none⟩ (.slice none 0 0)).setCell ⟨g, 8, none⟩ (.bool false)) base (fun j => ok j ∨ w.heap.size ≤ j) g (crash2 t keep) := by
              unfold crash2
              rw [e]
              exact ⟨⟨vb0, vl0, (.slice A2 ys.length q2), .slice none 0 0⟩, blk_set (blk_set B1.out 6 _) 8 _, ⟨R.b0, R.l0, N1, Kd.R_nil _ _ _ _ _⟩⟩
            have TM' := Aside0.mk TM
            have CF := Aside0.mk (HC.out.then_ CW.out (fun _ h => .inl h))
            clear TM CW R e C2 N1
            go_roundw
            case rel => exact ⟨2, _, by go_num, ⟨.inr (.inr ⟨rfl, rfl⟩)⟩, TM', CF⟩
            case measure => simp [intOf]
          · have ecl : clamp keep t.s1.l.length = t.s1.l.length := by simp [clamp, hk1, hk2]
            have hk4 : (keep < 0) = False := eq_false hk1
            have hk3 : ((t.s1.l.length : Int) < keep) = True := eq_true (by omega)
            have hsl := cut_to (P := Try.prog) 27 5 .i64 Try.underlying27 hi5.choose_spec Al t.s1.l.length cl (t.s1.l.length : Int) (by omega) (by omega) hcl
            obtain ⟨bs, hbs⟩ : ∃ bs, bs = t.s1.l.take (clamp keep t.s1.l.length) := ⟨_, rfl⟩
            have hbl : bs.length ≤ 1000000 := by rw [hbs]; simp; omega
            have HBL := Aside0.mk hbl
            clear hbl
            obtain ⟨ys, hy⟩ : ∃ ys, ys = (if false = true then [] else t.s1.b) ++ bs := ⟨_, rfl⟩
            have HE : Aside0 (crashS t.s1 keep = { t.s1 with b := ys, l := [], wet := false }) := ⟨by rw [hy, hbs]; simp [crashS, H3.out, H2.out]⟩
            have L2 : Aside0 (B8.R 5 wr.drew base (fun j => ok j ∨ w.heap.size ≤ j) (.slice Al t.s1.l.length cl) bs) := ⟨by rw [hbs, ecl]; exact Kd.R_take (w := wr) HL.out (by omega)⟩
            have HY := Aside0.mk hy
            have D := Aside0.mk ((Ch.refl wr (fun _ => False)).drew)
            have G2 : Aside0 (wr.drew.heap[g]? = some (.cells (tcells _ (crash1 t keep)) 49 (0, 0))) := ⟨HG.out⟩
            clear hy hbs ecl
            try simp only [Int.toNat_natCast] at hsl
            try simp only [Int.toNat_zero] at hsl
            go_wp2_with fail
            go_still_tail 14, (by kernel_rfl)
            change wpList _ _ _ _ _ wr.drew
            clear c0 c1 c2 c3
            generalize hw2 : wr.drew = w2 at L2 D G2 ⊢
            clear hw2
            go_wp2_with (go_at_call 18; go_must (refine (apply_calls' g 5 49 (tcells _ (crash1 t keep)) vb1 t.s1.b Al t.s1.l.length cl bs ys false _ base _ G2.out rfl (by decide) (D.out.R HB.out (fun _ _ h => h)) (fun w' h => C_of_row L2.out G2.out (by decide) h) (by omega) (by have := HBL.out; omega) HY.out).mono ?_; rintro e w1 ⟨rfl, v1, hb1, ho1, hc1⟩; obtain ⟨A2, q2, rfl⟩ := Kd.R_slice ho1; have B1 := Aside0.mk hb1; have H1 := Aside0.mk ho1; have C1 := Aside0.mk hc1; have d1 := blk_cell hb1 6; have d3 := blk_cell hb1 8; have hf1 : ∀ i, w1.frozen? ⟨g, i, none⟩ = false := (fun i => blk_frozen B1.out i); simp [tcells] at d1 d3; clear hb1 ho1 hc1))
            have CW := Aside0.mk ((((D.out.mono (S' := fun j => j = g) (fun _ h => h.elim)).then_ C1.out (fun _ h => .inl h)).setCell (p := ⟨g, 6, none⟩) (.inl rfl) (.slice none 0 0)).setCell (p := ⟨g, 8, none⟩) (.inl rfl) (.bool false))
            have R := HR.out.keep HG.out (by decide) CW.out
            have e : crashS t.s1 keep = { t.s1 with b := ys, l := [], wet := false } := HE.out
            have C2 := ((Ch.refl w1 (fun j => j = g)).setCell (p := ⟨g, 6, none⟩) (.inl rfl) (.slice none 0 0)).setCell (p := ⟨g, 8, none⟩) (.inl rfl) (.bool false)
            have N1 := new_row' (ok := ok) (row_keep H1.out B1.out (by decide) C2) hb (Nat.le_trans HC.out.size D.out.size)
            have TM : TapeM ((w1.setCell ⟨g, 6, none⟩ (.slice none 0 0)).setCell ⟨g, 8, none⟩ (.bool false)) base (fun j => ok j ∨ w.heap.size ≤ j) g (crash2 t keep) := by
              unfold crash2
              rw [e]
              exact ⟨⟨vb0, vl0, (.slice A2 ys.length q2), .slice none 0 0⟩, blk_set (blk_set B1.out 6 _) 8 _, ⟨R.b0, R.l0, N1, Kd.R_nil _ _ _ _ _⟩⟩
            have TM' := Aside0.mk TM
            have CF := Aside0.mk (HC.out.then_ CW.out (fun _ h => .inl h))
            clear TM CW R e C2 N1
            go_roundw
            case rel => exact ⟨2, _, by go_num, ⟨.inr (.inr ⟨rfl, rfl⟩)⟩, TM', CF⟩
            case measure => simp [intOf]
        · have H3 := Aside0.mk h3
          have H2 := Aside0.mk h2
          simp [h3, h2] at c3 c2
          clear h3 h2
          by_cases hk : (bits .and .i64 keep 1 == 1) = true
          · obtain ⟨bs, hbs⟩ : ∃ bs, bs = t.s1.l := ⟨_, rfl⟩
            have HBL : Aside0 (bs.length ≤ 1000000) := ⟨by rw [hbs]; omega⟩
            obtain ⟨ys, hy⟩ : ∃ ys, ys = (if true = true then [] else t.s1.b) ++ bs := ⟨_, rfl⟩
            have HE : Aside0 (crashS t.s1 keep = { t.s1 with b := ys, l := [], wet := false }) := ⟨by rw [hy, hbs]; simp only [crashS, H3.out, H2.out, odd, hk]; simp⟩
            have L2 : Aside0 (B8.R 5 wr base (fun j => ok j ∨ w.heap.size ≤ j) (.slice Al t.s1.l.length cl) bs) := ⟨by rw [hbs]; exact HL.out⟩
            have HY := Aside0.mk hy
            have D := Aside0.mk (Ch.refl wr (fun _ => False))
            clear hy hbs
            go_wp2_with (go_at_call 18; go_must (refine (apply_calls' g 5 49 (tcells _ (crash1 t keep)) vb1 t.s1.b Al t.s1.l.length cl bs ys true _ base _ HG.out rfl (by decide) (D.out.R HB.out (fun _ _ h => h)) (fun w' h => C_of_row L2.out HG.out (by decide) h) (by omega) (by have := HBL.out; omega) HY.out).mono ?_; rintro e w1 ⟨rfl, v1, hb1, ho1, hc1⟩; obtain ⟨A2, q2, rfl⟩ := Kd.R_slice ho1; have B1 := Aside0.mk hb1; have H1 := Aside0.mk ho1; have C1 := Aside0.mk hc1; have d1 := blk_cell hb1 6; have d3 := blk_cell hb1 8; have hf1 : ∀ i, w1.frozen? ⟨g, i, none⟩ = false := (fun i => blk_frozen B1.out i); simp [tcells] at d1 d3; clear hb1 ho1 hc1))
            have CW := Aside0.mk ((((D.out.mono (S' := fun j => j = g) (fun _ h => h.elim)).then_ C1.out (fun _ h => .inl h)).setCell (p := ⟨g, 6, none⟩) (.inl rfl) (.slice none 0 0)).setCell (p := ⟨g, 8, none⟩) (.inl rfl) (.bool false))
            have R := HR.out.keep HG.out (by decide) CW.out
            have e : crashS t.s1 keep = { t.s1 with b := ys, l := [], wet := false } := HE.out
            have C2 := ((Ch.refl w1 (fun j => j = g)).setCell (p := ⟨g, 6, none⟩) (.inl rfl) (.slice none 0 0)).setCell (p := ⟨g, 8, none⟩) (.inl rfl) (.bool false)
            have N1 := new_row' (ok := ok) (row_keep H1.out B1.out (by decide) C2) hb (Nat.le_trans HC.out.size D.out.size)
            have TM : TapeM ((w1.setCell ⟨g, 6, none⟩ (.slice none 0 0)).setCell ⟨g, 8, none⟩ (.bool false)) base (fun j => ok j ∨ w.heap.size ≤ j) g (crash2 t keep) := by
              unfold crash2
              rw [e]
              exact ⟨⟨vb0, vl0, (.slice A2 ys.length q2), .slice none 0 0⟩, blk_set (blk_set B1.out 6 _) 8 _, ⟨R.b0, R.l0, N1, Kd.R_nil _ _ _ _ _⟩⟩
            have TM' := Aside0.mk TM
            have CF := Aside0.mk (HC.out.then_ CW.out (fun _ h => .inl h))
            clear TM CW R e C2 N1
            go_roundw
            case rel => exact ⟨2, _, by go_num, ⟨.inr (.inr ⟨rfl, rfl⟩)⟩, TM', CF⟩
            case measure => simp [intOf]
          · replace hk := Bool.eq_false_iff.2 hk
            have HE : Aside0 (crashS t.s1 keep = { t.s1 with l := [], wet := false }) := ⟨by simp only [crashS, H3.out, H2.out, odd, hk]; simp⟩
            go_wp2_with fail
            have CW := ((Ch.refl wr (fun j => j = g)).setCell (p := ⟨g, 6, none⟩) (.inl rfl) (.slice none 0 0)).setCell (p := ⟨g, 8, none⟩) (.inl rfl) (.bool false)
            have R := HR.out.keep HG.out (by decide) CW
            have TM : TapeM ((wr.setCell ⟨g, 6, none⟩ (.slice none 0 0)).setCell ⟨g, 8, none⟩ (.bool false)) base (fun j => ok j ∨ w.heap.size ≤ j) g (crash2 t keep) := by
              unfold crash2
              rw [HE.out]
              exact ⟨⟨vb0, vl0, vb1, .slice none 0 0⟩, blk_set (blk_set HG.out 6 _) 8 _, ⟨R.b0, R.l0, R.b1, Kd.R_nil _ _ _ _ _⟩⟩
            have TM' := Aside0.mk TM
            have CF := Aside0.mk (HC.out.then_ CW (fun _ h => .inl h))
            clear TM CW R
            go_roundw
            case rel => exact ⟨2, _, by go_num, ⟨.inr (.inr ⟨rfl, rfl⟩)⟩, TM', CF⟩
            case measure => simp [intOf]
    · have HG := Aside0.mk hg
      have HR := Aside0.mk hr
      have c10 := blk_cell hg 10
      have c11 := blk_cell hg 11
      have hfr : ∀ i, wr.frozen? ⟨g, i, none⟩ = false := fun i => blk_frozen HG.out i
      simp [tcells] at c10 c11
      clear hg hr
      go_wp2_with fail
      go_end0
      have CW := ((Ch.refl wr (fun j => j = g)).setCell (p := ⟨g, 10, none⟩) (.inl rfl) (.int .i64 (-1))).setCell (p := ⟨g, 11, none⟩) (.inl rfl) (.bool false)
      have R := HR.out.keep HG.out (by decide) CW
      exact ⟨rfl, ⟨v, blk_set (blk_set HG.out 10 _) 11 _, ⟨R.b0, R.l0, R.b1, R.l1⟩⟩, HC.out.then_ CW (fun _ h => .inl h)⟩
end Go.Proofs.Ytgehempmccponaa
