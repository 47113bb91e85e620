/- The tape in memory; (*Tape).one. -/
import Derived.Test.YtgehempmccponaaB
set_option linter.unusedVariables false
namespace Go.Proofs.Ytgehempmccponaa
open Go.RowKit Go.Proofs.YtgehempmccponaaW.PrintWords Go.Proofs.YtgehempmccponaaW.PrintLast Go.Proofs.YtgehempmccponaaW.PrintMore
structure Sd where
  b : List Int
  l : List Int
  swap : Bool
  wet : Bool
  lost : Bool
structure Tp where
  s0 : Sd
  s1 : Sd
  fuse : Int
  down : Bool
def Tp.side (t : Tp) (n : Nat) : Sd := if n = 0 then t.s0 else t.s1
def Tp.put (t : Tp) (n : Nat) (s : Sd) : Tp := if n = 0 then { t with s0 := s } else { t with s1 := s }
/-- The four rows that a tape's cells lead to. -/
structure Vals where
  b0 : Value
  l0 : Value
  b1 : Value
  l1 : Value
def tcells (v : Vals) (t : Tp) : Array Value :=
  #[v.b0, v.l0, .bool t.s0.swap, .bool t.s0.wet, .bool t.s0.lost, v.b1, v.l1, .bool t.s1.swap, .bool t.s1.wet, .bool t.s1.lost, .int .i64 t.fuse, .bool t.down]
structure Rows4 (w : World) (base : Nat) (ok : Nat → Prop) (v : Vals) (t : Tp) : Prop where
  b0 : B8.R 5 w base ok v.b0 t.s0.b
  l0 : B8.R 5 w base ok v.l0 t.s0.l
  b1 : B8.R 5 w base ok v.b1 t.s1.b
  l1 : B8.R 5 w base ok v.l1 t.s1.l
def TapeM (w : World) (base : Nat) (ok : Nat → Prop) (g : Nat) (t : Tp) : Prop :=
  ∃ v : Vals, w.heap[g]? = some (.cells (tcells v t) 49 (0, 0)) ∧ Rows4 w base ok v t
def Tp.small (t : Tp) (N : Nat) : Prop := t.s0.b.length ≤ N ∧ t.s0.l.length ≤ N ∧ t.s1.b.length ≤ N ∧ t.s1.l.length ≤ N ∧ -1 ≤ t.fuse ∧ t.fuse ≤ 9223372036854775807
/-- (*Tape).one. -/
def oneF (t : Tp) (n : Nat) (bs : List Int) (swap : Bool) : Tp × Bool :=
  if t.fuse = 0 then ({ t.put n { t.side n with l := bs, swap := swap, wet := true } with down := true }, false)
  else (({ t with fuse := if t.fuse > 0 then t.fuse - 1 else t.fuse }).put n { t.side n with b := (if swap then [] else (t.side n).b) ++ bs }, true)
def OneTo (g : Nat) (r : Tp × Bool) (w : World) (base : Nat) (ok : Nat → Prop) (e : Ending) (w' : World) : Prop :=
  e = .returned (.bool r.2) ∧ TapeM w' base (fun k => ok k ∨ w.heap.size ≤ k) g r.1 ∧ Ch w w' (fun k => k = g)
theorem Rows4.ch {w w' : World} {base : Nat} {ok : Nat → Prop} {v : Vals} {t : Tp} {S : Nat → Prop} (h : Rows4 w base ok v t) (hc : Ch w w' S) (hn : ∀ k, ok k → ¬ S k) : Rows4 w' base ok v t :=
  ⟨hc.R h.b0 hn, hc.R h.l0 hn, hc.R h.b1 hn, hc.R h.l1 hn⟩
theorem Rows4.mono {w : World} {base : Nat} {ok ok' : Nat → Prop} {v : Vals} {t : Tp} (h : Rows4 w base ok v t) (hn : ∀ k, ok k → ok' k) : Rows4 w base ok' v t :=
  ⟨Kd.R_mono h.b0 hn, Kd.R_mono h.l0 hn, Kd.R_mono h.b1 hn, Kd.R_mono h.l1 hn⟩
/-- Rows of bytes, and a block of another type. -/
theorem row_apart {w : World} {base g t : Nat} {ok : Nat → Prop} {v : Value} {xs : List Int} {cs : Array Value} (h : B8.R 5 w base ok v xs) (hg : w.heap[g]? = some (.cells cs t (0, 0))) (ht : 5 ≠ t) : B8.R 5 w base (fun k => ok k ∧ k ≠ g) v xs :=
  Kd.R_types h hg (by simpa [Kd.int, Kd.scalar] using ht)
theorem row_keep {w w' : World} {base g t : Nat} {ok : Nat → Prop} {v : Value} {xs : List Int} {cs : Array Value} (h : B8.R 5 w base ok v xs) (hg : w.heap[g]? = some (.cells cs t (0, 0))) (ht : 5 ≠ t) (hc : Ch w w' (fun k => k = g)) : B8.R 5 w' base ok v xs :=
  Kd.R_mono (hc.R (row_apart h hg ht) (fun _ hk => hk.2)) (fun _ hk => hk.1)
theorem Rows4.apart {w : World} {base g t : Nat} {ok : Nat → Prop} {v : Vals} {tp : Tp} {cs : Array Value} (h : Rows4 w base ok v tp) (hg : w.heap[g]? = some (.cells cs t (0, 0))) (ht : 5 ≠ t) : Rows4 w base (fun k => ok k ∧ k ≠ g) v tp :=
  ⟨row_apart h.b0 hg ht, row_apart h.l0 hg ht, row_apart h.b1 hg ht, row_apart h.l1 hg ht⟩
/-- What only block g has changed in leaves the rows. -/
theorem Rows4.keep {w w' : World} {base g t : Nat} {ok : Nat → Prop} {v : Vals} {tp : Tp} {cs : Array Value} (h : Rows4 w base ok v tp) (hg : w.heap[g]? = some (.cells cs t (0, 0))) (ht : 5 ≠ t) (hc : Ch w w' (fun k => k = g)) : Rows4 w' base ok v tp :=
  ((h.apart hg ht).ch hc (fun _ hk => hk.2)).mono (fun _ hk => hk.1)
/-- A row that is new, among the others. -/
theorem new_row {w W : World} {base : Nat} {ok : Nat → Prop} {v : Value} {xs : List Int} (h : B8.R 5 W w.heap.size (fun _ => True) v xs) (hb : base ≤ w.heap.size) : B8.R 5 W base (fun k => ok k ∨ w.heap.size ≤ k) v xs :=
  Kd.R_lower (Kd.R_mono (Kd.R_bound h) (fun k hk => .inr hk.2.1)) hb
theorem new_row' {w w1 W : World} {base : Nat} {ok : Nat → Prop} {v : Value} {xs : List Int} (h : B8.R 5 W w1.heap.size (fun _ => True) v xs) (hb : base ≤ w.heap.size) (hle : w.heap.size ≤ w1.heap.size) : B8.R 5 W base (fun k => ok k ∨ w.heap.size ≤ k) v xs :=
  Kd.R_lower (Kd.R_mono (Kd.R_bound h) (fun k hk => .inr (Nat.le_trans hle hk.2.1))) (Nat.le_trans hb hle)
set_option maxHeartbeats 2000000 in
theorem one_calls (g n : Nat) (t : Tp) (A : Option Addr) (c : Nat) (bs : List Int) (swap : Bool) (w : World) (base : Nat) (ok : Nat → Prop) (hn : n < 2)
    (ht : TapeM w base ok g t) (hA : ∀ w', Ch w w' (fun k => k = g) → B8.C w' A bs.length bs) (hs : (t.side n).b.length ≤ 1000000) (hs5 : -1 ≤ t.fuse) (hs6 : t.fuse ≤ 9223372036854775807) (hl : bs.length ≤ 1000000) (hb : base ≤ w.heap.size) :
    Calls Try.prog 21 #[.pointer (some ⟨g, 0, none⟩), .pointer (some ⟨g, 5 * n, none⟩), .slice A bs.length c, .bool swap] w (OneTo g (oneF t n bs swap) w base ok) := by
  obtain ⟨v, hg, hr⟩ := ht
  have hfr : ∀ i, w.frozen? ⟨g, i, none⟩ = false := fun i => blk_frozen hg i
  have c10 : w.cell? ⟨g, 10, none⟩ = some (.int .i64 t.fuse) := blk_cell hg 10
  have HS := Aside0.mk hs
  clear hs
  have HG := Aside0.mk hg
  have HR := Aside0.mk hr
  have HA := Aside0.mk hA
  clear hg hr hA
  by_cases hz : t.fuse = 0
  · have hz1 : (t.fuse == 0) = true := beq_iff_eq.2 hz
    have HZ := Aside0.mk hz
    clear hz
    rcases n with _ | _ | n
    · have c1 := blk_cell HG.out 1
      have c2 := blk_cell HG.out 2
      have c3 := blk_cell HG.out 3
      have c11 := blk_cell HG.out 11
      simp [tcells] at c1 c2 c3 c11
      go_enter Try.func21, Try.ntmps21
      go_wp2_with (go_at_call 20; go_must (refine (clone_calls A c bs _ (HA.out _ (Ch.refl _ _)) (by omega)).mono ?_; rintro e w1 ⟨v1, rfl, ho1, hc1⟩; obtain ⟨A2, q2, rfl⟩ := Kd.R_slice ho1; have H1 := Aside0.mk ho1; have C1 := Aside0.mk hc1; have G1 := Aside0.mk (hc1.blk HG.out (fun h => h)); have d1 := blk_cell G1.out 1; have d2 := blk_cell G1.out 2; have d3 := blk_cell G1.out 3; have d11 := blk_cell G1.out 11; simp [tcells] at d1 d2 d3 d11; have hf1 : ∀ i, w1.frozen? ⟨g, i, none⟩ = false := (fun i => blk_frozen G1.out i); clear ho1 hc1))
      go_ret
      have e : oneF t 0 bs swap = ({ t with s0 := { t.s0 with l := bs, swap := swap, wet := true }, down := true }, false) := by simp [oneF, Tp.put, Tp.side, HZ.out]
      have CC := ((((Ch.refl w1 (fun k => k = g)).setCell (p := ⟨g, 11, none⟩) (.inl rfl) (.bool true)).setCell (p := ⟨g, 1, none⟩) (.inl rfl) (.slice A2 bs.length q2)).setCell (p := ⟨g, 2, none⟩) (.inl rfl) (.bool swap)).setCell (p := ⟨g, 3, none⟩) (.inl rfl) (.bool true)
      have C := ((Ch.refl w (fun k => k = g)).then_ C1.out (fun _ h => h.elim)).then_ CC (fun _ h => .inl h)
      have R := (HR.out.keep HG.out (by decide) C).mono (ok' := fun k => ok k ∨ w.heap.size ≤ k) (fun _ h => .inl h)
      rw [e]
      exact ⟨rfl, ⟨{ v with l0 := .slice A2 bs.length q2 }, blk_set (blk_set (blk_set (blk_set G1.out 11 _) 1 _) 2 _) 3 _, R.b0, new_row (row_keep H1.out G1.out (by decide) CC) hb, R.b1, R.l1⟩, C⟩
    · have c1 := blk_cell HG.out 6
      have c2 := blk_cell HG.out 7
      have c3 := blk_cell HG.out 8
      have c11 := blk_cell HG.out 11
      simp [tcells] at c1 c2 c3 c11
      go_enter Try.func21, Try.ntmps21
      go_wp2_with (go_at_call 20; go_must (refine (clone_calls A c bs _ (HA.out _ (Ch.refl _ _)) (by omega)).mono ?_; rintro e w1 ⟨v1, rfl, ho1, hc1⟩; obtain ⟨A2, q2, rfl⟩ := Kd.R_slice ho1; have H1 := Aside0.mk ho1; have C1 := Aside0.mk hc1; have G1 := Aside0.mk (hc1.blk HG.out (fun h => h)); have d1 := blk_cell G1.out 6; have d2 := blk_cell G1.out 7; have d3 := blk_cell G1.out 8; have d11 := blk_cell G1.out 11; simp [tcells] at d1 d2 d3 d11; have hf1 : ∀ i, w1.frozen? ⟨g, i, none⟩ = false := (fun i => blk_frozen G1.out i); clear ho1 hc1))
      go_ret
      have e : oneF t 1 bs swap = ({ t with s1 := { t.s1 with l := bs, swap := swap, wet := true }, down := true }, false) := by simp [oneF, Tp.put, Tp.side, HZ.out]
      have CC := ((((Ch.refl w1 (fun k => k = g)).setCell (p := ⟨g, 11, none⟩) (.inl rfl) (.bool true)).setCell (p := ⟨g, 6, none⟩) (.inl rfl) (.slice A2 bs.length q2)).setCell (p := ⟨g, 7, none⟩) (.inl rfl) (.bool swap)).setCell (p := ⟨g, 8, none⟩) (.inl rfl) (.bool true)
      have C := ((Ch.refl w (fun k => k = g)).then_ C1.out (fun _ h => h.elim)).then_ CC (fun _ h => .inl h)
      have R := (HR.out.keep HG.out (by decide) C).mono (ok' := fun k => ok k ∨ w.heap.size ≤ k) (fun _ h => .inl h)
      rw [e]
      exact ⟨rfl, ⟨{ v with l1 := .slice A2 bs.length q2 }, blk_set (blk_set (blk_set (blk_set G1.out 11 _) 6 _) 7 _) 8 _, R.b0, R.l0, R.b1, new_row (row_keep H1.out G1.out (by decide) CC) hb⟩, C⟩
    · omega
  have hz1 : (t.fuse == 0) = false := beq_eq_false_iff_ne.2 hz
  have HZ := Aside0.mk hz
  clear hz
  by_cases hp : t.fuse > 0
  · have hp1 : decide (0 < t.fuse) = true := decide_eq_true hp
    have HP := Aside0.mk hp
    rcases n with _ | _ | n
    · have C0 := Aside0.mk ((Ch.refl w (fun k => k = g)).setCell (p := ⟨g, 10, none⟩) (.inl rfl) (.int .i64 (t.fuse - 1)))
      have G0 : Aside0 ((w.setCell ⟨g, 10, none⟩ (.int .i64 (t.fuse - 1))).heap[g]? = some (.cells (tcells v { t with fuse := t.fuse - 1 }) 49 (0, 0))) := ⟨blk_set HG.out 10 _⟩
      go_enter Try.func21, Try.ntmps21
      go_wp2_with (go_at_call 18; go_must (refine (apply_calls g 0 49 (tcells v { t with fuse := t.fuse - 1 }) v.b0 t.s0.b A c bs _ swap _ base ok G0.out rfl (by decide) (row_keep HR.out.b0 HG.out (by decide) C0.out) (fun w' h => HA.out w' (C0.out.then_ h (fun _ h => .inl h))) HS.out (by omega) rfl).mono ?_; rintro e w1 ⟨rfl, v1, hb1, ho1, hc1⟩; have B1 := Aside0.mk hb1; have H1 := Aside0.mk ho1; have C1 := Aside0.mk hc1; clear hb1 ho1 hc1))
      go_ret
      have ho1 := H1.out
      have e : oneF t 0 bs swap = ({ t with s0 := { t.s0 with b := (if swap then [] else t.s0.b) ++ bs }, fuse := t.fuse - 1 }, true) := by simp [oneF, Tp.put, Tp.side, HZ.out, HP.out]
      have C := C0.out.then_ C1.out (fun _ h => .inl h)
      have R := (HR.out.keep HG.out (by decide) C).mono (ok' := fun k => ok k ∨ w.heap.size ≤ k) (fun _ h => .inl h)
      rw [e]
      exact ⟨rfl, ⟨{ v with b0 := v1 }, B1.out, new_row' ho1 hb C0.out.size, R.l0, R.b1, R.l1⟩, C⟩
    · have C0 := Aside0.mk ((Ch.refl w (fun k => k = g)).setCell (p := ⟨g, 10, none⟩) (.inl rfl) (.int .i64 (t.fuse - 1)))
      have G0 : Aside0 ((w.setCell ⟨g, 10, none⟩ (.int .i64 (t.fuse - 1))).heap[g]? = some (.cells (tcells v { t with fuse := t.fuse - 1 }) 49 (0, 0))) := ⟨blk_set HG.out 10 _⟩
      go_enter Try.func21, Try.ntmps21
      go_wp2_with (go_at_call 18; go_must (refine (apply_calls g 5 49 (tcells v { t with fuse := t.fuse - 1 }) v.b1 t.s1.b A c bs _ swap _ base ok G0.out rfl (by decide) (row_keep HR.out.b1 HG.out (by decide) C0.out) (fun w' h => HA.out w' (C0.out.then_ h (fun _ h => .inl h))) HS.out (by omega) rfl).mono ?_; rintro e w1 ⟨rfl, v1, hb1, ho1, hc1⟩; have B1 := Aside0.mk hb1; have H1 := Aside0.mk ho1; have C1 := Aside0.mk hc1; clear hb1 ho1 hc1))
      go_ret
      have ho1 := H1.out
      have e : oneF t 1 bs swap = ({ t with s1 := { t.s1 with b := (if swap then [] else t.s1.b) ++ bs }, fuse := t.fuse - 1 }, true) := by simp [oneF, Tp.put, Tp.side, HZ.out, HP.out]
      have C := C0.out.then_ C1.out (fun _ h => .inl h)
      have R := (HR.out.keep HG.out (by decide) C).mono (ok' := fun k => ok k ∨ w.heap.size ≤ k) (fun _ h => .inl h)
      rw [e]
      exact ⟨rfl, ⟨{ v with b1 := v1 }, B1.out, R.b0, R.l0, new_row' ho1 hb C0.out.size, R.l1⟩, C⟩
    · omega
  · have hp1 : decide (0 < t.fuse) = false := decide_eq_false hp
    have HP := Aside0.mk hp
    rcases n with _ | _ | n
    · have C0 := Aside0.mk (Ch.refl w (fun k => k = g))
      have G0 : Aside0 (w.heap[g]? = some (.cells (tcells v t) 49 (0, 0))) := ⟨HG.out⟩
      go_enter Try.func21, Try.ntmps21
      go_wp2_with (go_at_call 18; go_must (refine (apply_calls g 0 49 (tcells v t) v.b0 t.s0.b A c bs _ swap _ base ok G0.out rfl (by decide) (row_keep HR.out.b0 HG.out (by decide) C0.out) (fun w' h => HA.out w' (C0.out.then_ h (fun _ h => .inl h))) HS.out (by omega) rfl).mono ?_; rintro e w1 ⟨rfl, v1, hb1, ho1, hc1⟩; have B1 := Aside0.mk hb1; have H1 := Aside0.mk ho1; have C1 := Aside0.mk hc1; clear hb1 ho1 hc1))
      go_ret
      have ho1 := H1.out
      have e : oneF t 0 bs swap = ({ t with s0 := { t.s0 with b := (if swap then [] else t.s0.b) ++ bs }, fuse := t.fuse }, true) := by (simp [oneF, Tp.put, Tp.side, HZ.out]; intro h; have := HP.out; omega)
      have C := C0.out.then_ C1.out (fun _ h => .inl h)
      have R := (HR.out.keep HG.out (by decide) C).mono (ok' := fun k => ok k ∨ w.heap.size ≤ k) (fun _ h => .inl h)
      rw [e]
      exact ⟨rfl, ⟨{ v with b0 := v1 }, B1.out, new_row' ho1 hb C0.out.size, R.l0, R.b1, R.l1⟩, C⟩
    · have C0 := Aside0.mk (Ch.refl w (fun k => k = g))
      have G0 : Aside0 (w.heap[g]? = some (.cells (tcells v t) 49 (0, 0))) := ⟨HG.out⟩
      go_enter Try.func21, Try.ntmps21
      go_wp2_with (go_at_call 18; go_must (refine (apply_calls g 5 49 (tcells v t) v.b1 t.s1.b A c bs _ swap _ base ok G0.out rfl (by decide) (row_keep HR.out.b1 HG.out (by decide) C0.out) (fun w' h => HA.out w' (C0.out.then_ h (fun _ h => .inl h))) HS.out (by omega) rfl).mono ?_; rintro e w1 ⟨rfl, v1, hb1, ho1, hc1⟩; have B1 := Aside0.mk hb1; have H1 := Aside0.mk ho1; have C1 := Aside0.mk hc1; clear hb1 ho1 hc1))
      go_ret
      have ho1 := H1.out
      have e : oneF t 1 bs swap = ({ t with s1 := { t.s1 with b := (if swap then [] else t.s1.b) ++ bs }, fuse := t.fuse }, true) := by (simp [oneF, Tp.put, Tp.side, HZ.out]; intro h; have := HP.out; omega)
      have C := C0.out.then_ C1.out (fun _ h => .inl h)
      have R := (HR.out.keep HG.out (by decide) C).mono (ok' := fun k => ok k ∨ w.heap.size ≤ k) (fun _ h => .inl h)
      rw [e]
      exact ⟨rfl, ⟨{ v with b1 := v1 }, B1.out, R.b0, R.l0, new_row' ho1 hb C0.out.size, R.l1⟩, C⟩
    · omega
end Go.Proofs.Ytgehempmccponaa
