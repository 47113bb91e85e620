/- Decode: the record of bytes. -/
import Derived.Test.YtcpekifbbjnjmaaK
set_option linter.unusedVariables false
namespace Go.Proofs.Ytcpekifbbjnjmaa
open Go.RowKit Go.Proofs.YtcpekifbbjnjmaaW.PrintWords Go.Proofs.YtcpekifbbjnjmaaW.PrintLast Go.Proofs.YtcpekifbbjnjmaaW.PrintMore Go.Proofs.Ytcpekifbbjnjmaa.PRecBack
/-- A slice's value. -/
structure Sl where
  A : Option Addr
  n : Nat
  c : Nat
/-- A record's value: its slices are v4, v5, v6. -/
structure RecAt (w : World) (r : Rc) (v4 v5 v6 : Sl) : Prop where
  n4 : v4.n = r.stripes.length
  l4 : v4.n ≤ v4.c
  c4 : k41.C w v4.A v4.n r.stripes
  n5 : v5.n = r.objects.length
  l5 : v5.n ≤ v5.c
  c5 : k44.C w v5.A v5.n r.objects
  n6 : v6.n = r.drives.length
  l6 : v6.n ≤ v6.c
  c6 : I64.C w v6.A v6.n r.drives
def rcs (r : Rc) (v4 v5 v6 : Sl) : Array Value := #[.int .i64 r.kind, .int .i64 r.id, .int .i64 r.size, .string r.key, .slice v4.A v4.n v4.c, .slice v5.A v5.n v5.c, .slice v6.A v6.n v6.c]
theorem RecAt.below {w W : World} {r : Rc} {v4 v5 v6 : Sl} (h : RecAt w r v4 v5 v6) (hb : Below w.heap.size w W) : RecAt W r v4 v5 v6 :=
  ⟨h.n4, h.l4, Kd.C_below h.c4 hb, h.n5, h.l5, Kd.C_below h.c5 hb, h.n6, h.l6, Kd.C_below h.c6 hb⟩
theorem encode_at (r : Rc) (v4 v5 v6 : Sl) (w : World) (h : RecAt w r v4 v5 v6) (hl : (tb (tRec r)).length ≤ 140737488355328) :
    Calls Try.prog 10 #[.agg #[.int .i64 r.kind, .int .i64 r.id, .int .i64 r.size, .string r.key, .slice v4.A v4.n v4.c, .slice v5.A v5.n v5.c, .slice v6.A v6.n v6.c]] w (EncTo r w) := by
  obtain ⟨A4, n4, c4⟩ := v4
  obtain ⟨A5, n5, c5⟩ := v5
  obtain ⟨A6, n6, c6⟩ := v6
  obtain ⟨e4, _, h4, e5, _, h5, e6, _, h6⟩ := h
  simp only at e4 e5 e6 h4 h5 h6 ⊢
  subst e4
  subst e5
  subst e6
  exact encode_calls r A4 A5 A6 c4 c5 c6 w h4 h5 h6 hl
theorem rencode_at (r : Rc) (v4 v5 v6 : Sl) (w : World) (h : RecAt w r v4 v5 v6) (hl : (tb (tRec r)).length ≤ 140737488355328) :
    Calls Try.prog 11 #[.agg #[.int .i64 r.kind, .int .i64 r.id, .int .i64 r.size, .string r.key, .slice v4.A v4.n v4.c, .slice v5.A v5.n v5.c, .slice v6.A v6.n v6.c]] w (EncTo r w) := by
  obtain ⟨A4, n4, c4⟩ := v4
  obtain ⟨A5, n5, c5⟩ := v5
  obtain ⟨A6, n6, c6⟩ := v6
  obtain ⟨e4, _, h4, e5, _, h5, e6, _, h6⟩ := h
  simp only at e4 e5 e6 h4 h5 h6 ⊢
  subst e4
  subst e5
  subst e6
  exact rencode_calls r A4 A5 A6 c4 c5 c6 w h4 h5 h6 hl
def rc0 : Rc := ⟨0, 0, 0, ⟨#[]⟩, [], [], []⟩
def sl0 : Sl := ⟨none, 0, 0⟩
theorem rec_nil (w : World) : RecAt w rc0 sl0 sl0 sl0 := ⟨rfl, Nat.le_refl _, Kd.C_nil _ _, rfl, Nat.le_refl _, Kd.C_nil _ _, rfl, Nat.le_refl _, Kd.C_nil _ _⟩
/-- What Decode answers. -/
def DecTo (bs : List Int) (w : World) (e : Ending) (w' : World) : Prop :=
  ∃ r v4 v5 v6 code, e = .returned (.tuple #[.agg #[.int .i64 r.kind, .int .i64 r.id, .int .i64 r.size, .string r.key, .slice v4.A v4.n v4.c, .slice v5.A v5.n v5.c, .slice v6.A v6.n v6.c], .int .i64 code]) ∧
    Below w.heap.size w w' ∧ RecAt w' r v4 v5 v6 ∧ ((code = 0 ∧ Dec bs r) ∨ (code = 2 ∧ r = rc0 ∧ ∀ r', ¬ Dec bs r'))
theorem dec_bad {bs : List Int} (h : (recP (bs, false)).1.2 = true) (r' : Rc) : ¬ Dec bs r' := fun hd => by
  have := hd.2.1
  rw [h] at this
  cases this
theorem dec_form {bs : List Int} (h : ¬ OkRec (recP (bs, false)).2) (r' : Rc) : ¬ Dec bs r' := fun hd => by
  have e := hd.1
  rw [e] at h
  exact h hd.2.2.1
theorem dec_ne {bs : List Int} (h : ¬ tb (tRec (recP (bs, false)).2) = bs) (r' : Rc) : ¬ Dec bs r' := fun hd => by
  have e := hd.1
  rw [e] at h
  exact h hd.2.2.2
theorem dec_yes {bs : List Int} (h1 : (recP (bs, false)).1.2 = false) (h2 : OkRec (recP (bs, false)).2) (h3 : tb (tRec (recP (bs, false)).2) = bs) : Dec bs (recP (bs, false)).2 := ⟨rfl, h1, h2, h3⟩
theorem rec_cells_M {w : World} {base : Nat} {r : Rc} {v4 v5 v6 : Sl} (h4 : k41.R 41 w base (fun _ => True) (.slice v4.A v4.n v4.c) r.stripes) (h5 : k44.R 44 w base (fun _ => True) (.slice v5.A v5.n v5.c) r.objects) (h6 : I64.R 3 w base (fun _ => True) (.slice v6.A v6.n v6.c) r.drives) : RecAt w r v4 v5 v6 := by
  have a4 := Kd.R_reads' h4
  have a5 := Kd.R_reads' h5
  have a6 := Kd.R_reads' h6
  refine ⟨a4.1, a4.2.1, ?_, a5.1, a5.2.1, ?_, a6.1, a6.2.1, ?_⟩
  · rw [a4.1]; exact a4.2.2
  · rw [a5.1]; exact a5.2.2
  · rw [a6.1]; exact a6.2.2
set_option maxHeartbeats 8000000 in
set_option maxRecDepth 100000 in
theorem decode_calls (A : Option Addr) (m c : Nat) (bs : List Int) (W : World) (hm : m = bs.length) (hmc : m ≤ c) (hA : B8.C W A m bs) (hb : Byt bs) : Calls Try.prog 13 #[.slice A m c] W (DecTo bs W) := by
  obtain ⟨w0, hw0⟩ : ∃ w0, w0 = W.alloc (.cells (rcs rc0 sl0 sl0 sl0) 26) := ⟨_, rfl⟩
  have hsz : w0.heap.size = W.heap.size + 1 := by rw [hw0]; simp
  have R0 : Aside0 (Rd w0 (w0.alloc (.cells #[.slice A m c, .bool false] 57)) w0.heap.size (bs, false)) := ⟨⟨Nat.le_refl _, (Below.refl _ _).alloc (Nat.le_refl _) _, hb, A, m, c, hm, hmc, blk_new _ _, by rw [hw0]; exact Kd.C_alloc hA _⟩⟩
  have X0 : Aside0 ((w0.alloc (.cells #[.slice A m c, .bool false] 57)).heap[W.heap.size]? = some (.cells (rcs rc0 sl0 sl0 sl0) 26 (0, 0))) := ⟨by
    have h1 : w0.heap[W.heap.size]? = some (.cells (rcs rc0 sl0 sl0 sl0) 26 (0, 0)) := by rw [hw0]; exact blk_new _ _
    rw [Below.heap_alloc _ _ _ (blk_lt h1)]
    exact h1⟩
  rw [hsz, hw0] at R0
  rw [hw0] at X0
  have C0 : Aside0 (Ch W ((W.alloc (.cells (rcs rc0 sl0 sl0 sl0) 26)).alloc (.cells #[.slice A m c, .bool false] 57)) (fun k => k = W.heap.size + 1)) := ⟨((Ch.refl W _).alloc _).alloc _⟩
  simp only [rcs, rc0, sl0] at R0 X0 C0
  have HA := Aside0.mk hA
  have HM := Aside0.mk hm
  have HB := Aside0.mk hb
  have HRM := Aside0.mk (recP_room (bs, false) hb)
  have ne1 : Aside0 (W.heap.size ≠ W.heap.size + 1) := ⟨by omega⟩
  clear hA hm hb hw0 hsz
  obtain ⟨r, hr⟩ : ∃ r, r = (recP (bs, false)).2 := ⟨_, rfl⟩
  have E1 : Aside0 ((numP (bs, false) 1).2 = r.kind) := ⟨by rw [hr]; rfl⟩
  have E2 : Aside0 ((wordP (numP (bs, false) 1).1).2 = r.id) := ⟨by rw [hr]; rfl⟩
  have E3 : Aside0 ((wordP (wordP (numP (bs, false) 1).1).1).2 = r.size) := ⟨by rw [hr]; rfl⟩
  have E4 : Aside0 ((keyP (wordP (wordP (numP (bs, false) 1).1).1).1).2 = r.key) := ⟨by rw [hr]; rfl⟩
  have ER := Aside0.mk hr
  rw [← hr] at HRM
  have q41 : ∀ q, q ∈ 41 :: k41.E → q ≠ 57 := by simp [k41, Kd.iso, Kd.pair, Kd.slice, Kd.int, Kd.scalar]
  have q44 : ∀ q, q ∈ 44 :: k44.E → q ≠ 57 := by simp [k44, k41, Kd.iso, Kd.pair, Kd.slice, Kd.int, Kd.string, Kd.scalar]
  have Q41 := Aside0.mk q41
  have Q44 := Aside0.mk q44
  clear hr q41 q44
  go_enter Try.func13, Try.ntmps13
  go_wp2_with (first | (go_at_call 25; go_must (refine (gnum1_calls _ _ _ _ R0.out).mono ?_; rintro e w2 ⟨rfl, h1, h2, h3, h4⟩; rw [E1.out]; replace X0 := Aside0.mk (h4.blk X0.out ne1.out); replace C0 := Aside0.mk (C0.out.then_ h4 (fun _ h => .inl h)); replace R0 := Aside0.mk h3; clear h1 h2 h3 h4)) | (go_at_call 26; go_must (refine (gword_calls _ _ _ _ R0.out).mono ?_; rintro e w2 ⟨rfl, h1, h2, h3, h4⟩; (first | rw [E2.out] | rw [E3.out]); replace X0 := Aside0.mk (h4.blk X0.out ne1.out); replace C0 := Aside0.mk (C0.out.then_ h4 (fun _ h => .inl h)); replace R0 := Aside0.mk h3; clear h1 h2 h3 h4)) | (go_at_call 27; go_must (refine (gkey_calls _ _ _ _ R0.out).mono ?_; rintro e w2 ⟨rfl, h3, h4⟩; rw [E4.out]; replace X0 := Aside0.mk (h4.blk X0.out ne1.out); replace C0 := Aside0.mk (C0.out.then_ h4 (fun _ h => .inl h)); replace R0 := Aside0.mk h3; clear h3 h4)) | (go_at_call 28; go_must (refine (rowT_calls _ _ _ _ 1 (.inl rfl) R0.out).mono ?_; rintro e w2 ⟨A4, m4, c4, rfl, h1, h3, h4⟩; have HR4 := Aside0.mk (Kd.R_lower h1 C0.out.size); replace X0 := Aside0.mk (h4.blk X0.out ne1.out); replace C0 := Aside0.mk (C0.out.then_ h4 (fun _ h => .inl h)); replace R0 := Aside0.mk h3; clear h1 h3 h4)) | (go_at_call 30; go_must (refine (rowU_calls _ _ _ _ 2 (.inr (.inl rfl)) R0.out).mono ?_; rintro e w2 ⟨A5, m5, c5, rfl, h1, h3, h4⟩; have HR5 := Aside0.mk (Kd.R_lower h1 C0.out.size); obtain ⟨csg, hbg⟩ := R0.out.blk; replace HR4 := Aside0.mk (R_keepG HR4.out hbg Q41.out h4); replace X0 := Aside0.mk (h4.blk X0.out ne1.out); replace C0 := Aside0.mk (C0.out.then_ h4 (fun _ h => .inl h)); replace R0 := Aside0.mk h3; clear h1 h3 h4 hbg)) | (go_at_call 32; go_must (refine (rowI_calls _ _ _ _ 1 (.inl rfl) R0.out).mono ?_; rintro e w2 ⟨A6, m6, c6, rfl, h1, h3, h4⟩; have HR6 := Aside0.mk (Kd.R_lower h1 C0.out.size); obtain ⟨csg, hbg⟩ := R0.out.blk; replace HR4 := Aside0.mk (R_keepG HR4.out hbg Q41.out h4); replace HR5 := Aside0.mk (R_keepG HR5.out hbg Q44.out h4); replace X0 := Aside0.mk (h4.blk X0.out ne1.out); replace C0 := Aside0.mk (C0.out.then_ h4 (fun _ h => .inl h)); replace R0 := Aside0.mk h3; clear h1 h3 h4 hbg)))
  have HR4' : Aside0 (k41.R 41 w2 W.heap.size (fun _ => True) (.slice A4 m4 c4) r.stripes) := ⟨by rw [ER.out]; exact HR4.out⟩
  have HR5' : Aside0 (k44.R 44 w2 W.heap.size (fun _ => True) (.slice A5 m5 c5) r.objects) := ⟨by rw [ER.out]; exact HR5.out⟩
  have HR6' : Aside0 (I64.R 3 w2 W.heap.size (fun _ => True) (.slice A6 m6 c6) r.drives) := ⟨by rw [ER.out]; exact HR6.out⟩
  obtain ⟨b, hbb⟩ : ∃ b, b = (recP (bs, false)).1.2 := ⟨_, rfl⟩
  have HBB := Aside0.mk hbb
  have hgc : w2.cell? ⟨W.heap.size + 1, 1, none⟩ = some (.bool b) := by rw [hbb]; exact R0.out.cell
  have hox : ∀ o, (w2.alloc o).cell? ⟨W.heap.size + 1, 1, none⟩ = some (.bool b) := fun o => cell_later ((Below.refl _ _).alloc (Nat.le_refl _) o) hgc
  have HOX := Aside0.mk hox
  clear HR4 HR5 HR6 R0 E1 E2 E3 E4 hbb hgc hox Q41 Q44
  have RA : Aside0 (∀ o, RecAt (w2.alloc o) r ⟨A4, m4, c4⟩ ⟨A5, m5, c5⟩ ⟨A6, m6, c6⟩) := ⟨fun o => rec_cells_M (Kd.R_alloc HR4'.out o) (Kd.R_alloc HR5'.out o) (Kd.R_alloc HR6'.out o)⟩
  have fin0 : ∀ w9, Ch W w9 (fun k => W.heap.size ≤ k) → DecTo bs W (.returned (.tuple #[.agg #[.int .i64 0, .int .i64 0, .int .i64 0, .string ⟨#[]⟩, .slice none 0 0, .slice none 0 0, .slice none 0 0], .int .i64 2])) w9 ∨ ∃ r', Dec bs r' := fun w9 hc => by
    by_cases h : ∃ r', Dec bs r'
    · exact .inr h
    · exact .inl ⟨rc0, sl0, sl0, sl0, 2, rfl, hc.below (Nat.le_refl _) (fun _ h => h), rec_nil _, .inr ⟨rfl, rfl, fun r' hr => h ⟨r', hr⟩⟩⟩
  have FIN0 := Aside0.mk fin0
  clear fin0
  refine (encode_at r ⟨A4, m4, c4⟩ ⟨A5, m5, c5⟩ ⟨A6, m6, c6⟩ _ (RA.out _) HRM.out).mono ?_
  rintro e w4 ⟨A7, m7, c7, code, rfl, hb4, hcase⟩
  have hw2 := below_alloc (Below.refl w2.heap.size w2) (.cells #[.int .i64 r.kind, .int .i64 r.id, .int .i64 r.size, .string r.key, .slice A4 m4 c4, .slice A5 m5 c5, .slice A6 m6 c6] 26)
  have hgc := cell_later hb4 (HOX.out _)
  have OB := (hb4.block w2.heap.size (by simp)).trans (blk_new w2 _)
  have hb24 : Below w2.heap.size w2 w4 := hw2.trans (hb4.mono hw2.size)
  have XB := (hb24.block W.heap.size (blk_lt X0.out)).trans X0.out
  have B24 := Aside0.mk hb24
  have XBB := Aside0.mk XB
  have OBB := Aside0.mk OB
  have C4 := Aside0.mk ((C0.out.then_ (Ch.of_below hb24 (fun _ => False)) (fun _ h => h.elim)).mono (S' := fun k => W.heap.size ≤ k) (fun k hk => by rw [hk]; omega))
  have o0 := blk_cell OB 0
  have o1 := blk_cell OB 1
  have o2 := blk_cell OB 2
  have o3 := blk_cell OB 3
  have o4 := blk_cell OB 4
  have o5 := blk_cell OB 5
  have o6 := blk_cell OB 6
  have x0 := blk_cell XB 0
  have x1 := blk_cell XB 1
  have x2 := blk_cell XB 2
  have x3 := blk_cell XB 3
  have x4 := blk_cell XB 4
  have x5 := blk_cell XB 5
  have x6 := blk_cell XB 6
  have xf : ∀ i, w4.frozen? ⟨W.heap.size, i, none⟩ = false := fun i => blk_frozen XB i
  have HCASE := Aside0.mk hcase
  clear hb4 hw2 hb24 XB OB hcase X0 C0
  have Z7 : ∀ w9, Aside0 (Ch W w9 (fun k => W.heap.size ≤ k)) → Aside0 (Ch W (((((((w9.setCell ⟨W.heap.size, 0, none⟩ (.int .i64 0)).setCell ⟨W.heap.size, 1, none⟩ (.int .i64 0)).setCell ⟨W.heap.size, 2, none⟩ (.int .i64 0)).setCell ⟨W.heap.size, 3, none⟩ (.string ⟨#[]⟩)).setCell ⟨W.heap.size, 4, none⟩ (.slice none 0 0)).setCell ⟨W.heap.size, 5, none⟩ (.slice none 0 0)).setCell ⟨W.heap.size, 6, none⟩ (.slice none 0 0)) (fun k => W.heap.size ≤ k)) := fun w9 h =>
    ⟨((((((h.out.setCell (p := ⟨W.heap.size, 0, none⟩) (.inr (Nat.le_refl _)) _).setCell (p := ⟨W.heap.size, 1, none⟩) (.inr (Nat.le_refl _)) _).setCell (p := ⟨W.heap.size, 2, none⟩) (.inr (Nat.le_refl _)) _).setCell (p := ⟨W.heap.size, 3, none⟩) (.inr (Nat.le_refl _)) _).setCell (p := ⟨W.heap.size, 4, none⟩) (.inr (Nat.le_refl _)) _).setCell (p := ⟨W.heap.size, 5, none⟩) (.inr (Nat.le_refl _)) _).setCell (p := ⟨W.heap.size, 6, none⟩) (.inr (Nat.le_refl _)) _⟩
  have ZZ := Aside0.mk Z7
  clear Z7
  cases b with
  | true =>
    go_wp2_with fail
    refine bodyPost_ret (v := .tuple #[.agg #[.int .i64 0, .int .i64 0, .int .i64 0, .string ⟨#[]⟩, .slice none 0 0, .slice none 0 0, .slice none 0 0], .int .i64 2]) (by simp [results, Try.results13, go_sem, x0, x1, x2, x3, x4, x5, x6]) rfl ?_
    rcases FIN0.out _ (ZZ.out _ C4).out with h | ⟨r', hr⟩
    · exact h
    · exact absurd hr (dec_bad HBB.out.symm r')
  | false =>
    rcases HCASE.out with ⟨hok, rfl, hR⟩ | ⟨hno, hcode, rfl, rfl, rfl⟩
    · have hrr := Kd.R_reads' hR
      have HOK := Aside0.mk hok
      have KE : Aside0 (Calls Try.prog 33 #[.slice A7 m7 c7, .slice A m c] w4 fun e w' => ∃ b, e = .returned (.bool b) ∧ Aside0 (b = true ↔ tb (tRec r) = bs) ∧ Aside0 (Below w4.heap.size w4 w')) :=
        ⟨equal_any A7 A m7 m c7 c _ bs w4 hrr.1 HM.out hrr.2.1 hmc (by rw [hrr.1]; exact hrr.2.2) (Kd.C_below HA.out (C4.out.below (Nat.le_refl _) (fun _ h => h))) (byt_rec r) HB.out⟩
      clear hR hrr hok HCASE
      by_cases heq : tb (tRec r) = bs
      · have HEQ := Aside0.mk heq
        clear heq
        go_wp2_with (go_at_call 33; go_must (refine KE.out.mono ?_; rintro e w5 ⟨b2, rfl, hb2, hb5⟩; obtain rfl : b2 = true := hb2.out.2 HEQ.out; have OB5 := (hb5.out.block _ (blk_lt OBB.out)).trans OBB.out; have XB5 := (hb5.out.block _ (blk_lt XBB.out)).trans XBB.out; have XF := Aside0.mk XB5; have p0 := blk_cell OB5 0; have p1 := blk_cell OB5 1; have p2 := blk_cell OB5 2; have p3 := blk_cell OB5 3; have p4 := blk_cell OB5 4; have p5 := blk_cell OB5 5; have p6 := blk_cell OB5 6; have y0 := blk_cell XB5 0; have y1 := blk_cell XB5 1; have y2 := blk_cell XB5 2; have y3 := blk_cell XB5 3; have y4 := blk_cell XB5 4; have y5 := blk_cell XB5 5; have y6 := blk_cell XB5 6; have yf : ∀ i, w5.frozen? ⟨W.heap.size, i, none⟩ = false := (fun i => blk_frozen XB5 i); have C5 := Aside0.mk (C4.out.then_ (Ch.of_below hb5.out (fun _ => False)) (fun _ h => h.elim)); clear OB5 XB5))
        have CC := ((((((((Ch.refl w5 (fun k => k = W.heap.size)).setCell (p := ⟨W.heap.size, 0, none⟩) (.inl rfl) (.int .i64 r.kind)).setCell (p := ⟨W.heap.size, 1, none⟩) (.inl rfl) (.int .i64 r.id)).setCell (p := ⟨W.heap.size, 2, none⟩) (.inl rfl) (.int .i64 r.size)).setCell (p := ⟨W.heap.size, 3, none⟩) (.inl rfl) (.string r.key)).setCell (p := ⟨W.heap.size, 4, none⟩) (.inl rfl) (.slice A4 m4 c4)).setCell (p := ⟨W.heap.size, 5, none⟩) (.inl rfl) (.slice A5 m5 c5)).setCell (p := ⟨W.heap.size, 6, none⟩) (.inl rfl) (.slice A6 m6 c6))
        refine bodyPost_ret (v := .tuple #[.agg #[.int .i64 r.kind, .int .i64 r.id, .int .i64 r.size, .string r.key, .slice A4 m4 c4, .slice A5 m5 c5, .slice A6 m6 c6], .int .i64 0]) (by simp [results, Try.results13, go_sem, y0, y1, y2, y3, y4, y5, y6]) rfl ⟨r, ⟨A4, m4, c4⟩, ⟨A5, m5, c5⟩, ⟨A6, m6, c6⟩, 0, rfl, ?_, ?_, .inl ⟨rfl, ?_⟩⟩
        · exact (C5.out.then_ CC (fun k hk => .inl (by rw [hk]; exact Nat.le_refl _))).below (Nat.le_refl _) (fun _ h => h)
        · have b25 : Below w2.heap.size w2 w5 := B24.out.trans (hb5.out.mono B24.out.size)
          exact rec_cells_M (R_keepG (Kd.R_below HR4'.out b25) XF.out (by simp [k41, Kd.iso, Kd.pair, Kd.slice, Kd.int, Kd.scalar]) CC) (R_keepG (Kd.R_below HR5'.out b25) XF.out (by simp [k44, k41, Kd.iso, Kd.pair, Kd.slice, Kd.int, Kd.string, Kd.scalar]) CC) (R_keepG (Kd.R_below HR6'.out b25) XF.out (by simp [Kd.int, Kd.scalar]) CC)
        · have e1 := HEQ.out
          have e2 := HOK.out
          rw [ER.out] at e1 e2 ⊢
          exact dec_yes HBB.out.symm e2 e1
      · have HEQ := Aside0.mk heq
        clear heq
        go_wp2_with (go_at_call 33; go_must (refine KE.out.mono ?_; rintro e w5 ⟨b2, rfl, hb2, hb5⟩; obtain rfl : b2 = false := (by cases b2; rfl; exact absurd (hb2.out.1 rfl) HEQ.out); have OB5 := (hb5.out.block _ (blk_lt OBB.out)).trans OBB.out; have XB5 := (hb5.out.block _ (blk_lt XBB.out)).trans XBB.out; have XF := Aside0.mk XB5; have p0 := blk_cell OB5 0; have p1 := blk_cell OB5 1; have p2 := blk_cell OB5 2; have p3 := blk_cell OB5 3; have p4 := blk_cell OB5 4; have p5 := blk_cell OB5 5; have p6 := blk_cell OB5 6; have y0 := blk_cell XB5 0; have y1 := blk_cell XB5 1; have y2 := blk_cell XB5 2; have y3 := blk_cell XB5 3; have y4 := blk_cell XB5 4; have y5 := blk_cell XB5 5; have y6 := blk_cell XB5 6; have yf : ∀ i, w5.frozen? ⟨W.heap.size, i, none⟩ = false := (fun i => blk_frozen XB5 i); have C5 := Aside0.mk (C4.out.then_ (Ch.of_below hb5.out (fun _ => False)) (fun _ h => h.elim)); clear OB5 XB5))
        refine bodyPost_ret (v := .tuple #[.agg #[.int .i64 0, .int .i64 0, .int .i64 0, .string ⟨#[]⟩, .slice none 0 0, .slice none 0 0, .slice none 0 0], .int .i64 2]) (by simp [results, Try.results13, go_sem, y0, y1, y2, y3, y4, y5, y6]) rfl ?_
        rcases FIN0.out _ (ZZ.out _ C5).out with h | ⟨r', hr⟩
        · exact h
        · exact absurd hr (dec_ne (by rw [← ER.out]; exact HEQ.out) r')
    · have hcc : code = 2 ∨ code = 4 := by
        rw [hcode]
        split <;> simp
      have HNO := Aside0.mk hno
      clear hcode HCASE hno
      rcases hcc with rfl | rfl
      all_goals
        go_wp2_with fail
        refine bodyPost_ret (v := .tuple #[.agg #[.int .i64 0, .int .i64 0, .int .i64 0, .string ⟨#[]⟩, .slice none 0 0, .slice none 0 0, .slice none 0 0], .int .i64 2]) (by simp [results, Try.results13, go_sem, x0, x1, x2, x3, x4, x5, x6]) rfl ?_
        rcases FIN0.out _ (ZZ.out _ C4).out with h | ⟨r', hr⟩
        · exact h
        · exact absurd hr (dec_form (by rw [← ER.out]; exact HNO.out) r')
end Go.Proofs.Ytcpekifbbjnjmaa
