/- New, Append, Replace, at, Fuse, Lose, Spoil. -/
import Derived.Test.YtgehempmccponaaD
set_option linter.unusedVariables false
namespace Go.Proofs.Ytgehempmccponaa
open Go.RowKit Go.Proofs.YtgehempmccponaaW.PrintWords Go.Proofs.YtgehempmccponaaW.PrintLast Go.Proofs.YtgehempmccponaaW.PrintMore
theorem Rows4.later {w w' : World} {base g t : Nat} {ok : Nat → Prop} {v : Vals} {tp : Tp} {cs : Array Value} (h : Rows4 w base ok v tp) (hg : w.heap[g]? = some (.cells cs t (0, 0))) (ht : 5 ≠ t) (hc : Ch w w' (fun k => k = g)) : Rows4 w' base (fun k => ok k ∨ w.heap.size ≤ k) v tp :=
  (h.keep hg ht hc).mono (fun _ h => .inl h)
def newT : Tp := ⟨⟨[], [], false, false, false⟩, ⟨[], [], false, false, false⟩, -1, false⟩
def nilV : Vals := ⟨.slice none 0 0, .slice none 0 0, .slice none 0 0, .slice none 0 0⟩
theorem rows_nil (w : World) (base : Nat) (ok : Nat → Prop) : Rows4 w base ok nilV newT := ⟨Kd.R_nil _ _ _ _ _, Kd.R_nil _ _ _ _ _, Kd.R_nil _ _ _ _ _, Kd.R_nil _ _ _ _ _⟩
set_option maxHeartbeats 400000 in
theorem new_calls (w : World) : Calls Try.prog 5 #[] w fun e w' => e = .returned (.pointer (some ⟨w.heap.size, 0, none⟩)) ∧ (∀ base ok, TapeM w' base ok w.heap.size newT) ∧ Ch w w' (fun _ => False) := by
  go_enter Try.func5, Try.ntmps5
  go_wp2_with fail
  go_ret
  exact ⟨rfl, fun base ok => ⟨nilV, blk_new _ _, rows_nil _ _ _⟩, (Ch.refl _ _).alloc _⟩
set_option maxHeartbeats 400000 in
theorem append_calls (g : Nat) (t : Tp) (A : Option Addr) (c : Nat) (bs : List Int) (w : World) (base : Nat) (ok : Nat → Prop)
    (ht : TapeM w base ok g t) (hA : ∀ w', Ch w w' (fun k => k = g) → B8.C w' A bs.length bs) (hs1 : t.s0.b.length ≤ 1000000) (hs2 : t.s1.b.length ≤ 1000000) (hs5 : -1 ≤ t.fuse) (hs6 : t.fuse ≤ 9223372036854775807) (hl : bs.length ≤ 1000000) (hb : base ≤ w.heap.size) :
    Calls Try.prog 6 #[.pointer (some ⟨g, 0, none⟩), .slice A bs.length c] w (WriteTo g (writeF t bs false) w base ok) := by
  have K := Aside0.mk (write_calls g t A c bs false w base ok ht hA hs1 hs2 hs5 hs6 hl hb)
  clear ht hA
  go_enter Try.func6, Try.ntmps6
  go_wp2_with (go_at_call 17; go_must (refine K.out.mono ?_; rintro e w1 ⟨rfl, ht1, hc1⟩; have T1 := Aside0.mk ht1; have C1 := Aside0.mk hc1; clear ht1 hc1))
  go_ret
  exact ⟨rfl, T1.out, C1.out⟩
set_option maxHeartbeats 400000 in
theorem replace_calls (g : Nat) (t : Tp) (A : Option Addr) (c : Nat) (bs : List Int) (w : World) (base : Nat) (ok : Nat → Prop)
    (ht : TapeM w base ok g t) (hA : ∀ w', Ch w w' (fun k => k = g) → B8.C w' A bs.length bs) (hs1 : t.s0.b.length ≤ 1000000) (hs2 : t.s1.b.length ≤ 1000000) (hs5 : -1 ≤ t.fuse) (hs6 : t.fuse ≤ 9223372036854775807) (hl : bs.length ≤ 1000000) (hb : base ≤ w.heap.size) :
    Calls Try.prog 8 #[.pointer (some ⟨g, 0, none⟩), .slice A bs.length c] w (WriteTo g (writeF t bs true) w base ok) := by
  have K := Aside0.mk (write_calls g t A c bs true w base ok ht hA hs1 hs2 hs5 hs6 hl hb)
  clear ht hA
  go_enter Try.func8, Try.ntmps8
  go_wp2_with (go_at_call 17; go_must (refine K.out.mono ?_; rintro e w1 ⟨rfl, ht1, hc1⟩; have T1 := Aside0.mk ht1; have C1 := Aside0.mk hc1; clear ht1 hc1))
  go_ret
  exact ⟨rfl, T1.out, C1.out⟩
set_option maxHeartbeats 400000 in
theorem at_some (g n : Nat) (w : World) (hn : n < 2) : Calls Try.prog 19 #[.pointer (some ⟨g, 0, none⟩), .int .i64 n] w fun e w' => e = .returned (.pointer (some ⟨g, 5 * n, none⟩)) ∧ w = w' := by
  rcases n with _ | _ | n
  · go_enter Try.func19, Try.ntmps19
    go_wp2_with fail
    go_ret
    exact ⟨rfl, rfl⟩
  · go_enter Try.func19, Try.ntmps19
    go_wp2_with fail
    go_ret
    exact ⟨rfl, rfl⟩
  · omega
set_option maxHeartbeats 400000 in
theorem at_none (g : Nat) (n : Int) (w : World) (hn : n < 0 ∨ 2 ≤ n) : Calls Try.prog 19 #[.pointer (some ⟨g, 0, none⟩), .int .i64 n] w fun e w' => e = .returned (.pointer none) ∧ w = w' := by
  rcases hn with hn | hn
  · go_enter Try.func19, Try.ntmps19
    go_wp2_with fail
    go_ret
    exact ⟨rfl, rfl⟩
  · have h0 : ¬ n < 0 := by omega
    go_enter Try.func19, Try.ntmps19
    go_wp2_with fail
    go_ret
    exact ⟨rfl, rfl⟩
def ActTo (g : Nat) (r : Tp) (w : World) (base : Nat) (ok : Nat → Prop) (e : Ending) (w' : World) : Prop :=
  e = .returned (.tuple #[]) ∧ TapeM w' base (fun k => ok k ∨ w.heap.size ≤ k) g r ∧ Ch w w' (fun k => k = g)
def fuseF (t : Tp) (n : Int) : Tp := { t with fuse := if n < 0 then 0 else n }
set_option maxHeartbeats 400000 in
theorem fuse_calls (g : Nat) (t : Tp) (n : Int) (w : World) (base : Nat) (ok : Nat → Prop) (ht : TapeM w base ok g t) :
    Calls Try.prog 9 #[.pointer (some ⟨g, 0, none⟩), .int .i64 n] w (ActTo g (fuseF t n) w base ok) := by
  obtain ⟨v, hg, hr⟩ := ht
  have c10 : w.cell? ⟨g, 10, none⟩ = some (.int .i64 t.fuse) := blk_cell hg 10
  have f10 : w.frozen? ⟨g, 10, none⟩ = false := blk_frozen hg 10
  have HG := Aside0.mk hg
  have HR := Aside0.mk hr
  clear hg hr
  by_cases hn : n < 0
  · go_enter Try.func9, Try.ntmps9
    go_wp2_with fail
    go_end0
    have e : fuseF t n = { t with fuse := 0 } := by simp [fuseF, hn]
    have C := (Ch.refl w (fun k => k = g)).setCell (p := ⟨g, 10, none⟩) (.inl rfl) (.int .i64 0)
    rw [e]
    have R := HR.out.later HG.out (by decide) C
    exact ⟨rfl, ⟨v, blk_set HG.out 10 _, R.b0, R.l0, R.b1, R.l1⟩, C⟩
  · go_enter Try.func9, Try.ntmps9
    go_wp2_with fail
    go_end0
    have e : fuseF t n = { t with fuse := n } := by simp [fuseF]; intro h; omega
    have C := (Ch.refl w (fun k => k = g)).setCell (p := ⟨g, 10, none⟩) (.inl rfl) (.int .i64 n)
    rw [e]
    have R := HR.out.later HG.out (by decide) C
    exact ⟨rfl, ⟨v, blk_set HG.out 10 _, R.b0, R.l0, R.b1, R.l1⟩, C⟩
def loseF (t : Tp) (n : Nat) : Tp := t.put n ⟨[], [], false, false, true⟩
set_option maxHeartbeats 400000 in
theorem lose_some (g n : Nat) (t : Tp) (w : World) (base : Nat) (ok : Nat → Prop) (ht : TapeM w base ok g t) (hn : n < 2) :
    Calls Try.prog 12 #[.pointer (some ⟨g, 0, none⟩), .int .i64 n] w (ActTo g (loseF t n) w base ok) := by
  obtain ⟨v, hg, hr⟩ := ht
  have hfr : ∀ i, w.frozen? ⟨g, i, none⟩ = false := fun i => blk_frozen hg i
  have HG := Aside0.mk hg
  have HR := Aside0.mk hr
  clear hr
  rcases n with _ | _ | n
  · have c0 := blk_cell hg 0
    have c1 := blk_cell hg 1
    have c2 := blk_cell hg 2
    have c3 := blk_cell hg 3
    have c4 := blk_cell hg 4
    simp [tcells] at c0 c1 c2 c3 c4
    clear hg
    go_enter Try.func12, Try.ntmps12
    go_wp2_with (go_at_call 19; go_must (refine (at_some g 0 _ (by omega)).mono ?_; rintro e w1 ⟨rfl, rfl⟩))
    go_end0
    have C := (((((Ch.refl w (fun k => k = g)).setCell (p := ⟨g, 0, none⟩) (.inl rfl) (.slice none 0 0)).setCell (p := ⟨g, 1, none⟩) (.inl rfl) (.slice none 0 0)).setCell (p := ⟨g, 2, none⟩) (.inl rfl) (.bool false)).setCell (p := ⟨g, 3, none⟩) (.inl rfl) (.bool false)).setCell (p := ⟨g, 4, none⟩) (.inl rfl) (.bool true)
    have R := HR.out.later HG.out (by decide) C
    exact ⟨rfl, ⟨{ v with b0 := .slice none 0 0, l0 := .slice none 0 0 }, blk_set (blk_set (blk_set (blk_set (blk_set (HG.out) 0 _) 1 _) 2 _) 3 _) 4 _, ⟨Kd.R_nil _ _ _ _ _, Kd.R_nil _ _ _ _ _, R.b1, R.l1⟩⟩, C⟩
  · have c0 := blk_cell hg 5
    have c1 := blk_cell hg 6
    have c2 := blk_cell hg 7
    have c3 := blk_cell hg 8
    have c4 := blk_cell hg 9
    simp [tcells] at c0 c1 c2 c3 c4
    clear hg
    go_enter Try.func12, Try.ntmps12
    go_wp2_with (go_at_call 19; go_must (refine (at_some g 1 _ (by omega)).mono ?_; rintro e w1 ⟨rfl, rfl⟩))
    go_end0
    have C := (((((Ch.refl w (fun k => k = g)).setCell (p := ⟨g, 5, none⟩) (.inl rfl) (.slice none 0 0)).setCell (p := ⟨g, 6, none⟩) (.inl rfl) (.slice none 0 0)).setCell (p := ⟨g, 7, none⟩) (.inl rfl) (.bool false)).setCell (p := ⟨g, 8, none⟩) (.inl rfl) (.bool false)).setCell (p := ⟨g, 9, none⟩) (.inl rfl) (.bool true)
    have R := HR.out.later HG.out (by decide) C
    exact ⟨rfl, ⟨{ v with b1 := .slice none 0 0, l1 := .slice none 0 0 }, blk_set (blk_set (blk_set (blk_set (blk_set (HG.out) 5 _) 6 _) 7 _) 8 _) 9 _, ⟨R.b0, R.l0, Kd.R_nil _ _ _ _ _, Kd.R_nil _ _ _ _ _⟩⟩, C⟩
  · omega
set_option maxHeartbeats 400000 in
theorem lose_none (g : Nat) (n : Int) (w : World) (hn : n < 0 ∨ 2 ≤ n) : Calls Try.prog 12 #[.pointer (some ⟨g, 0, none⟩), .int .i64 n] w fun e w' => e = .returned (.tuple #[]) ∧ w = w' := by
  have HN := Aside0.mk hn
  clear hn
  go_enter Try.func12, Try.ntmps12
  go_wp2_with (go_at_call 19; go_must (refine (at_none g n _ HN.out).mono ?_; rintro e w1 ⟨rfl, rfl⟩))
  go_end0
  exact ⟨rfl, rfl⟩
def spoilF (t : Tp) (n : Nat) (bs : List Int) : Tp := t.put n { t.side n with b := bs, l := [], wet := false }
set_option maxHeartbeats 400000 in
theorem spoil_some (g n : Nat) (t : Tp) (A : Option Addr) (c : Nat) (bs : List Int) (w : World) (base : Nat) (ok : Nat → Prop) (ht : TapeM w base ok g t) (hn : n < 2) (hA : B8.C w A bs.length bs) (hl : bs.length ≤ 1000000) (hb : base ≤ w.heap.size) :
    Calls Try.prog 13 #[.pointer (some ⟨g, 0, none⟩), .int .i64 n, .slice A bs.length c] w (ActTo g (spoilF t n bs) w base ok) := by
  obtain ⟨v, hg, hr⟩ := ht
  have HG := Aside0.mk hg
  have HR := Aside0.mk hr
  have HA := Aside0.mk hA
  clear hr hg hA
  rcases n with _ | _ | n
  · go_enter Try.func13, Try.ntmps13
    go_wp2_with (first | (go_at_call 19; go_must (refine (at_some g 0 _ (by omega)).mono ?_; rintro e w1 ⟨rfl, rfl⟩)) | (go_at_call 20; go_must (refine (clone_calls A c bs _ HA.out (by omega)).mono ?_; rintro e w1 ⟨v1, rfl, ho1, hc1⟩; obtain ⟨A2, q2, rfl⟩ := Kd.R_slice ho1; have H1 := Aside0.mk ho1; have C1 := Aside0.mk hc1; have G1 := Aside0.mk (hc1.blk HG.out (fun h => h)); have d1 := blk_cell G1.out 0; have d2 := blk_cell G1.out 1; have d3 := blk_cell G1.out 3; simp [tcells] at d1 d2 d3; have hf1 : ∀ i, w1.frozen? ⟨g, i, none⟩ = false := (fun i => blk_frozen G1.out i); clear ho1 hc1)))
    go_end0
    have CC := (((Ch.refl w1 (fun k => k = g)).setCell (p := ⟨g, 0, none⟩) (.inl rfl) (.slice A2 bs.length q2)).setCell (p := ⟨g, 1, none⟩) (.inl rfl) (.slice none 0 0)).setCell (p := ⟨g, 3, none⟩) (.inl rfl) (.bool false)
    have C := ((Ch.refl w (fun k => k = g)).then_ C1.out (fun _ h => h.elim)).then_ CC (fun _ h => .inl h)
    have R := HR.out.later HG.out (by decide) C
    exact ⟨rfl, ⟨{ v with b0 := .slice A2 bs.length q2, l0 := .slice none 0 0 }, blk_set (blk_set (blk_set (G1.out) 0 _) 1 _) 3 _, ⟨new_row (row_keep H1.out G1.out (by decide) CC) hb, Kd.R_nil _ _ _ _ _, R.b1, R.l1⟩⟩, C⟩
  · go_enter Try.func13, Try.ntmps13
    go_wp2_with (first | (go_at_call 19; go_must (refine (at_some g 1 _ (by omega)).mono ?_; rintro e w1 ⟨rfl, rfl⟩)) | (go_at_call 20; go_must (refine (clone_calls A c bs _ HA.out (by omega)).mono ?_; rintro e w1 ⟨v1, rfl, ho1, hc1⟩; obtain ⟨A2, q2, rfl⟩ := Kd.R_slice ho1; have H1 := Aside0.mk ho1; have C1 := Aside0.mk hc1; have G1 := Aside0.mk (hc1.blk HG.out (fun h => h)); have d1 := blk_cell G1.out 5; have d2 := blk_cell G1.out 6; have d3 := blk_cell G1.out 8; simp [tcells] at d1 d2 d3; have hf1 : ∀ i, w1.frozen? ⟨g, i, none⟩ = false := (fun i => blk_frozen G1.out i); clear ho1 hc1)))
    go_end0
    have CC := (((Ch.refl w1 (fun k => k = g)).setCell (p := ⟨g, 5, none⟩) (.inl rfl) (.slice A2 bs.length q2)).setCell (p := ⟨g, 6, none⟩) (.inl rfl) (.slice none 0 0)).setCell (p := ⟨g, 8, none⟩) (.inl rfl) (.bool false)
    have C := ((Ch.refl w (fun k => k = g)).then_ C1.out (fun _ h => h.elim)).then_ CC (fun _ h => .inl h)
    have R := HR.out.later HG.out (by decide) C
    exact ⟨rfl, ⟨{ v with b1 := .slice A2 bs.length q2, l1 := .slice none 0 0 }, blk_set (blk_set (blk_set (G1.out) 5 _) 6 _) 8 _, ⟨R.b0, R.l0, new_row (row_keep H1.out G1.out (by decide) CC) hb, Kd.R_nil _ _ _ _ _⟩⟩, C⟩
  · omega
set_option maxHeartbeats 400000 in
theorem spoil_none (g : Nat) (n : Int) (A : Option Addr) (c m : Nat) (w : World) (hn : n < 0 ∨ 2 ≤ n) : Calls Try.prog 13 #[.pointer (some ⟨g, 0, none⟩), .int .i64 n, .slice A m c] w fun e w' => e = .returned (.tuple #[]) ∧ w = w' := by
  have HN := Aside0.mk hn
  clear hn
  go_enter Try.func13, Try.ntmps13
  go_wp2_with (go_at_call 19; go_must (refine (at_none g n _ HN.out).mono ?_; rintro e w1 ⟨rfl, rfl⟩))
  go_end0
  exact ⟨rfl, rfl⟩
end Go.Proofs.Ytgehempmccponaa
