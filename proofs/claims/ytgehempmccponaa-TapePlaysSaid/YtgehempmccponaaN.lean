/- TapePlays, walked. -/
import Derived.Test.YtgehempmccponaaS
import Derived.StillTailTactics
set_option linter.unusedVariables false
namespace Go.Proofs.Ytgehempmccponaa
open Go.RowKit Go.Proofs.YtgehempmccponaaW.PrintWords Go.Proofs.YtgehempmccponaaW.PrintLast Go.Proofs.YtgehempmccponaaW.PrintMore
structure Actn where
  what : Int
  n : Int
  b : List Int
def kAct : Kd Actn := Kd.iso (Kd.pair (Kd.int .i64) (Kd.pair (Kd.int .i64) (Kd.slice 5 B8))) (fun x => (x.what, x.n, x.b))
def ActOk (x : Actn) : Prop := -9223372036854775808 ≤ x.n ∧ x.n ≤ 9223372036854775807
theorem act_at {w : World} {A : Option Addr} {n : Nat} {xs : List Actn} (h : kAct.C w A n xs) (k : Nat) (hk : k < n) (x : Actn) (hx : xs[k]? = some x) :
    ∃ ad B c, A = some ad ∧ w.cell? (ad.add (k * 3)) = some (.int .i64 x.what) ∧ w.cell? ⟨(ad.add (k * 3)).block, (ad.add (k * 3)).off + 1, none⟩ = some (.int .i64 x.n) ∧ w.cell? ⟨(ad.add (k * 3)).block, (ad.add (k * 3)).off + 2, none⟩ = some (.slice B x.b.length c) ∧ x.b.length ≤ c ∧ B8.C w B x.b.length x.b := by
  obtain ⟨ad, e, hall⟩ := h.2.2 (by omega)
  obtain ⟨c, hl, hK, hcell⟩ := hall k x hx
  obtain ⟨_, _, rfl, rfl, _, _, rfl, rfl, B, c, rfl, hl2, hC⟩ := hK
  exact ⟨ad, B, c, e, hcell 0 _ rfl, by rw [← add_field _ _ 1 (by omega)]; exact hcell 1 _ rfl, by rw [← add_field _ _ 2 (by omega)]; exact hcell 2 _ rfl, hl2, hC⟩
theorem TapeR.lt {w : World} {base g : Nat} {ok : Nat → Prop} {t : Tp} (h : TapeR w base ok g t) : g < w.heap.size := by
  obtain ⟨v, hb, hr⟩ := h
  exact blk_lt hb
theorem TapeM.ne {w : World} {base g b : Nat} {ok : Nat → Prop} {t : Tp} {cs : Array Value} (h : TapeM w base ok g t) (hb : w.heap[b]? = some (.cells cs 5 (0, 0))) : ¬ g = b := by
  obtain ⟨v, hg, hr⟩ := h
  exact blk_ne hg hb (by decide)
theorem TapeR.ne {w : World} {base g b : Nat} {ok : Nat → Prop} {t : Tp} {cs : Array Value} (h : TapeR w base ok g t) (hb : w.heap[b]? = some (.cells cs 5 (0, 0))) : ¬ g = b := by
  obtain ⟨v, hg, hr⟩ := h
  exact blk_ne hg hb (by decide)
theorem TapeM.fresh {w : World} {base g : Nat} {ok : Nat → Prop} {t : Tp} (h : TapeM w base ok g t) : TapeM w base (fun k => k < w.heap.size) g t := by
  obtain ⟨v, hg, hr⟩ := h
  exact ⟨v, hg, Kd.R_mono (Kd.R_bound hr.b0) (fun _ hk => hk.2.2.1), Kd.R_mono (Kd.R_bound hr.l0) (fun _ hk => hk.2.2.1), Kd.R_mono (Kd.R_bound hr.b1) (fun _ hk => hk.2.2.1), Kd.R_mono (Kd.R_bound hr.l1) (fun _ hk => hk.2.2.1)⟩
theorem TapeR.fresh {w : World} {base g : Nat} {ok : Nat → Prop} {t : Tp} (h : TapeR w base ok g t) : TapeR w base (fun k => k < w.heap.size) g t := by
  obtain ⟨v, hg, hr⟩ := h
  exact ⟨v, hg, Kd.R_mono (Kd.R_bound hr.b0) (fun _ hk => hk.2.2.1), Kd.R_mono (Kd.R_bound hr.l0) (fun _ hk => hk.2.2.1), Kd.R_mono (Kd.R_bound hr.b1) (fun _ hk => hk.2.2.1), Kd.R_mono (Kd.R_bound hr.l1) (fun _ hk => hk.2.2.1)⟩
section
variable {ops : Array Oper} {rest : List Oper} {o : Oper} {a : Act} {Q : Exit → Act → World → Prop} {Kc : Act → World → Prop}
theorem wanted_none {y : Tmp → Option Bool} (h : o.guard = none) : Region.wanted o y = true := by
  unfold Region.wanted
  rw [h]
/-- append(v, ys...) in a region that draws its order. -/
theorem ap8s {W : World} (base : Nat) (hw : Region.wanted o (yielded ops a.tmps) = true) (s x : Operand)
    (ho : o.op = .call { callee := .builtin .append, args := #[s, x], argTypes := #[27, 27] })
    (v : Value) (xs ys : List Int) (A : Option Addr) (m c : Nat) (ok : Nat → Prop) (hs : a.eval s = v) (hx : a.eval x = .slice A m c)
    (HO : B8.R 5 W base ok v xs) (HR : B8.C W A m ys) (hfresh : ∀ k, W.heap.size ≤ k → ok k)
    (hbase : base ≤ W.heap.size) (hl : xs.length + m ≤ 140737488355328)
    (h : ∀ v1 w1, B8.R 5 w1 base ok v1 (xs ++ ys) → Ch W w1 (fun k => v.ownBlock = some k) → (v1.ownBlock = v.ownBlock ∨ ∃ b, v1.ownBlock = some b ∧ W.heap.size ≤ b) → Kc (a.put o.dst v1) w1) :
    if Region.wanted o (yielded ops a.tmps) = true then Oper.wp Try.prog o a W Kc Q else Kc (a.put o.dst undef) W :=
  Kd.R_append_rows_step B8 (w0 := W) base hw s x 27 5 (.int .u8 0) 1 ho Try.underlying27 inf5 rfl (by decide) (by omega) v xs ys A m c ok (fun _ => False) hs hx HO HR (fun _ _ h => h) (fun _ hk => hk.elim) hfresh (Below.refl _ _) hbase (by omega) fun v1 w1 hr _ hg hat => h v1 w1 hr (Ch.of_grown hg) hat
end
/-- A row of bytes, one of which is written. -/
theorem R_put8 {w : World} {base g n cap : Nat} {ok : Nat → Prop} {xs : List Int} (h : B8.R 5 w base ok (.slice (some ⟨g, 0, none⟩) n cap) xs) (i : Nat) (x : Int) :
    B8.R 5 (w.setCell ⟨g, i, none⟩ (.int .u8 x)) base ok (.slice (some ⟨g, 0, none⟩) n cap) (xs.set i x) := by
  have ho := Kd.own_of_R h
  have hn := (Kd.R_reads' h).1
  refine Kd.R_of_own ?_ h.1
  subst hn
  have := (own_store (k := .u8) (xs := xs) ho (i : Int) x).1
  simpa [encs, nums] using this
theorem R_cell8 {w : World} {base g n cap : Nat} {ok : Nat → Prop} {xs : List Int} (h : B8.R 5 w base ok (.slice (some ⟨g, 0, none⟩) n cap) xs) (i : Nat) (hi : i < n) : ∃ y, w.cell? ⟨g, i, none⟩ = some (.int .u8 y) ∧ w.frozen? ⟨g, i, none⟩ = false := by
  have hn := (Kd.R_reads' h).1
  subst hn
  have ho := own_at (k := .u8) (xs := xs) (Kd.own_of_R h) (i : Int) (by omega) (by omega)
  exact ⟨_, by simpa using ho.1, by simpa using ho.2⟩
theorem tmod_odd (i : Nat) : ((i / 2 * 2 + 1 : Nat) : Int).tmod 2 ≠ 0 := by
  rw [Int.tmod_eq_emod_of_nonneg (by omega)]
  omega
theorem all16 {S : World → Prop} {w3 : World} (s : Sd) (vb vl : Value) (kp : Int) (ys : List Int) (base : Nat) (ok : Nat → Prop) (hy : ys = s.upto kp) (hvb : B8.R 5 w3 base ok vb s.b) (hvl : B8.R 5 w3 base ok vl s.l) (h1 : s.b.length ≤ 1000000) (h2 : s.l.length ≤ 1000000) (hb : base ≤ w3.heap.size) (hS : ∀ W', Ch w3 W' (fun _ => False) → S W') (W : World) (hW : Ch w3 W (fun _ => False)) :
    Calls Try.prog 16 #[.agg #[vb, vl, .bool s.wet, .bool s.swap, .bool s.lost], .int .i64 kp] W fun e W' => ∃ A4 c4, e = .returned (.slice A4 ys.length c4) ∧ B8.C W' A4 ys.length ys ∧ Ch w3 W' (fun _ => False) ∧ S W' := by
  subst hy
  refine (all_calls s vb vl kp W base ok (hW.R hvb (fun _ _ h => h)) (hW.R hvl (fun _ _ h => h)) h1 h2 (Nat.le_trans hb hW.size)).mono ?_
  rintro e W' ⟨v, rfl, hr, hc⟩
  obtain ⟨A, c, rfl, _, hC⟩ := R_open hr
  have h3 := hW.then_ hc (fun _ h => h.elim)
  exact ⟨A, c, rfl, hC, h3, hS _ h3⟩
theorem same15 {S : World → Prop} {w3 : World} (A : Option Addr) (c : Nat) (ys : List Int) (hA : B8.C w3 A ys.length ys) (hl : ys.length ≤ 100000000) (hS : ∀ W', Ch w3 W' (fun _ => False) → S W') (W : World) (B : Option Addr) (d : Nat) (hW : Ch w3 W (fun _ => False)) (hB : B8.C W B ys.length ys) :
    Calls Try.prog 15 #[.slice A ys.length c, .slice B ys.length d] W fun e W' => e = .returned (.bool true) ∧ Ch w3 W' (fun _ => False) ∧ S W' := by
  refine (same_calls A B _ _ c d ys ys W (Kd.C_below hA (hW.quiet (fun _ h => h.elim))) hB hl hl).mono ?_
  rintro e W' ⟨rfl, hc⟩
  have h3 := hW.then_ hc (fun _ h => h.elim)
  exact ⟨by simp, h3, hS _ h3⟩
set_option maxHeartbeats 12000000 in
set_option maxRecDepth 100000 in
theorem plays_calls (A : Option Addr) (n c : Nat) (xs : List Actn) (w : World) (hA : kAct.C w A n xs) (hok : ∀ x ∈ xs, ActOk x) (hn : n ≤ 100) :
    Calls Try.prog 3 #[.slice A n c] w fun e w' => e = .returned (.bool true) ∧ Below w.heap.size w w' := by
  have HA := Aside0.mk hA
  have HOK := Aside0.mk hok
  have hn1 : decide ((100 : Int) < (n : Int)) = false := decide_eq_false (by omega)
  clear hA hok
  go_enter Try.func3, Try.ntmps3
  go_wp2_with (go_at_call 5; go_must (refine (new_calls _).mono ?_; rintro e w1 ⟨rfl, ht1, hc1⟩; have T1 := Aside0.mk (ht1 w.heap.size (fun k => k < w1.heap.size)); have C1 := Aside0.mk hc1; clear ht1 hc1))
  go_loopw [5] (fun u w' => ∃ (k : Nat) (t r : Tp), u = .int .i64 k ∧ Aside0 (k ≤ n) ∧ Aside0 (Sim t r) ∧ Aside0 (Bd t k) ∧ Aside0 (TapeM w' w.heap.size (fun _ => True) w.heap.size t) ∧ Aside0 (TapeR w' w.heap.size (fun _ => True) w1.heap.size r) ∧ Aside0 (Ch w w' (fun _ => False))) (fun u _ => n - (intOf u).toNat)
  case atStart => exact ⟨0, newT, newT, rfl, ⟨Nat.zero_le _⟩, ⟨⟨SimS.refl _, SimS.refl _, rfl, rfl⟩⟩, ⟨⟨by simp [newT], by simp [newT], by simp [newT], by simp [newT], by simp [newT], by simp [newT]⟩⟩, ⟨(T1.out.later ((Ch.refl _ _).alloc _) (fun h => h) (fun _ _ h => h)).mono (fun _ _ => trivial)⟩, ⟨⟨nilV, blk_new _ _, rows_nil _ _ _⟩⟩, ⟨C1.out.alloc _⟩⟩
  case round =>
    obtain ⟨k, t, r, rfl, HK, HS, HBd, HT, HR, HC⟩ := hrel
    obtain ⟨wo, rfl⟩ : ∃ wo : World, wo = wr := ⟨_, rfl⟩
    by_cases hlt : k < n
    · have hxl : k < xs.length := by have := HA.out.1; omega
      obtain ⟨x, hx⟩ : ∃ x, xs[k]? = some x := ⟨_, List.getElem?_eq_getElem hxl⟩
      obtain ⟨ad, B, cB, rfl, h0, h1, h2, hcB, hCB⟩ := act_at HA.out k hlt x hx
      have g0 := pw_cell_below (HC.out.quiet (fun _ h => h.elim)) h0
      have g1 := pw_cell_below (HC.out.quiet (fun _ h => h.elim)) h1
      have g2 := pw_cell_below (HC.out.quiet (fun _ h => h.elim)) h2
      have HCB := Aside0.mk hCB
      have HX := Aside0.mk hx
      clear h0 h1 h2 hCB hx
      by_cases hb : x.b.length ≤ 300
      · have hb1 : decide ((300 : Int) < (x.b.length : Int)) = false := decide_eq_false (by omega)
        have hb2 : decide (300 < x.b.length) = false := decide_eq_false (by omega)
        go_upto_block 2 with ((with_reducible refine gate_builtin (b := .append) (xs := #[.tmp 35, .tmp 37]) rfl ?_); at_builtin; go_must (refine ap8 wo.heap.size rfl (.tmp 35) (.tmp 37) rfl (.slice (some ⟨wo.heap.size + 1, 0, none⟩) 0 0) [] x.b B x.b.length cB (fun _ => True) rfl rfl ?aO ?aR ?aF ?aS ?aL ?_; (case aO => exact (by simpa using R_empty B8 5 (wo.alloc (.cells #[.int .i64 x.what, .int .i64 x.n, .slice B x.b.length cB] 34)) wo.heap.size (fun _ => True) (by first | (simp; done) | (simp; omega)) trivial)); (case aR => exact Kd.C_below HCB.out (((HC.out.alloc _).alloc _).quiet (fun _ h => h.elim))); (case aF => exact fun _ _ => trivial); (case aS => first | (simp; done) | (simp; omega)); (case aL => exact (show ([] : List Int).length + _ ≤ _ by rw [List.length_nil]; omega)); intro v2 w2 ho hg hat; obtain ⟨A2, c2, rfl⟩ := Kd.R_slice ho; have H2 := Aside0.mk (show B8.R 5 w2 wo.heap.size (fun _ => True) (.slice A2 x.b.length c2) x.b from ho); have C2 := Aside0.mk ((((Ch.refl wo (fun _ => False)).alloc _).alloc _).then_ hg (fun k hk => .inr (by simp [Value.ownBlock] at hk; omega))); have L2 := Aside0.mk (hg.blk (blk_alloc (blk_new wo (.cells #[.int .i64 x.what, .int .i64 x.n, .slice B x.b.length cB] 34)) _) (fun hk => by simp [Value.ownBlock] at hk)); have q0 := blk_cell L2.out 0; have q1 := blk_cell L2.out 1; have q2 := blk_cell L2.out 2; simp at q0 q1 q2; clear ho hg hat))
        clear g0 g1 g2
        go_cut [7, 8] (fun s7 s8 wc => ∃ (e : Int) (t' r' : Tp), s7 = .int .i64 e ∧ s8 = .int .i64 e ∧ Aside0 (Sim t' r') ∧ Aside0 (Bd t' (k + 1)) ∧ Aside0 (TapeM wc w.heap.size (fun j => ¬ (Value.slice A2 x.b.length c2).ownBlock = some j) w.heap.size t') ∧ Aside0 (TapeR wc w.heap.size (fun j => ¬ (Value.slice A2 x.b.length c2).ownBlock = some j) w1.heap.size r') ∧ Aside0 (B8.R 5 wc wo.heap.size (fun _ => True) (.slice A2 x.b.length c2) x.b) ∧ Aside0 (Ch w wc (fun _ => False)))
        case first =>
          have s0 : St w w.heap.size w1.heap.size wo.heap.size #[.int .i64 x.what, .int .i64 x.n, .slice B x.b.length cB] wo.heap.size (.slice A2 x.b.length c2) x.b t r w2 := ⟨Nat.le_refl _, C1.out.size, (HT.out.fresh.later C2.out (fun h => h) (fun _ _ h => h)).mono (fun k hk e => by have := Kd.R_base H2.out k e; omega), (HR.out.fresh.later C2.out (fun h => h) (fun _ _ h => h)).mono (fun k hk e => by have := Kd.R_base H2.out k e; omega), H2.out, HC.out.then_ C2.out (fun _ h => h.elim), L2.out⟩
          have S0 := Aside0.mk s0
          clear s0
          have HBr := Aside0.mk (HS.out.bd HBd.out)
          have hk100 : k ≤ 200 := by omega
          by_cases e0 : x.what = 0
          · as_aux_lemma =>
            have hw : (x.what == 0) = true := beq_iff_eq.2 e0
            obtain ⟨t1, e1, he⟩ : ∃ t1 e1, writeF t x.b false = (t1, e1) := ⟨_, _, rfl⟩
            obtain ⟨r1, e2, he2⟩ : ∃ r1 e2, writeF r x.b false = (r1, e2) := ⟨_, _, rfl⟩
            have hsim := sim_write HS.out x.b false
            rw [he, he2] at hsim
            obtain ⟨hs1, hee⟩ := hsim
            dsimp only at hs1 hee
            subst hee
            have hbd := bd_write HBd.out x.b false hb
            rw [he] at hbd
            have HS1 := Aside0.mk hs1
            have HB1 := Aside0.mk hbd
            have K6 := Aside0.mk (fun W (hW : Ch w2 W (fun _ => False)) => (S0.out.later hW).append HBd.out hk100 hb)
            rw [he] at K6
            have K7 := Aside0.mk (fun W3 (s1 : St w w.heap.size w1.heap.size wo.heap.size #[.int .i64 x.what, .int .i64 x.n, .slice B x.b.length cB] wo.heap.size (.slice A2 x.b.length c2) x.b t1 r W3) => s1.rwrite (d := cB) x.b false HCB.out HBr.out hk100 hb)
            rw [he2] at K7
            clear he he2 hs1 hbd e0
            go_wp2_with fail
            go_region_held3 (fun w' => w'.cell? ⟨wo.heap.size, 2, none⟩ = some (.slice B x.b.length cB)) (first | go_keep | exact KP.out) (first | (go_at_call 6; go_must (refine (K6.out _ ?c1).mono ?_; (case c1 => first | exact Ch.refl _ _ | exact (Ch.refl _ _).drew); rintro e3 w3 ⟨rfl, s1⟩; have S1 := Aside0.mk s1; have KP := Aside0.mk (blk_cell s1.l 2); clear s1)) | (go_at_call 7; go_must (refine (K7.out w3 S1.out).mono ?_; rintro e4 w4 ⟨rfl, s2⟩; have S2 := Aside0.mk s2; clear KP; have KP := Aside0.mk (blk_cell s2.l 2); clear s2)))
            go_wp2_with fail
            go_meet
            exact ⟨e1, t1, r1, rfl, rfl, ⟨HS1.out⟩, ⟨HB1.out⟩, ⟨S2.out.m⟩, ⟨S2.out.r⟩, ⟨S2.out.i⟩, ⟨S2.out.c⟩⟩
          have hw0 : (x.what == 0) = false := beq_eq_false_iff_ne.2 e0
          clear e0
          by_cases e1 : x.what = 1
          · as_aux_lemma =>
            have hw : (x.what == 1) = true := beq_iff_eq.2 e1
            obtain ⟨t1, er1, he⟩ : ∃ t1 er1, writeF t x.b true = (t1, er1) := ⟨_, _, rfl⟩
            obtain ⟨r1, er2, he2⟩ : ∃ r1 er2, writeF r x.b true = (r1, er2) := ⟨_, _, rfl⟩
            have hsim := sim_write HS.out x.b true
            rw [he, he2] at hsim
            obtain ⟨hs1, hee⟩ := hsim
            dsimp only at hs1 hee
            subst hee
            have hbd := bd_write HBd.out x.b true hb
            rw [he] at hbd
            have HS1 := Aside0.mk hs1
            have HB1 := Aside0.mk hbd
            have K6 := Aside0.mk (fun W (hW : Ch w2 W (fun _ => False)) => (S0.out.later hW).replace HBd.out hk100 hb)
            rw [he] at K6
            have K7 := Aside0.mk (fun W3 (s1 : St w w.heap.size w1.heap.size wo.heap.size #[.int .i64 x.what, .int .i64 x.n, .slice B x.b.length cB] wo.heap.size (.slice A2 x.b.length c2) x.b t1 r W3) => s1.rwrite (d := cB) x.b true HCB.out HBr.out hk100 hb)
            rw [he2] at K7
            clear he he2 hs1 hbd e1
            go_wp2_with fail
            go_region_held3 (fun w' => w'.cell? ⟨wo.heap.size, 2, none⟩ = some (.slice B x.b.length cB)) (first | go_keep | exact KP.out) (first | (go_at_call 8; go_must (refine (K6.out _ ?c1).mono ?_; (case c1 => first | exact Ch.refl _ _ | exact (Ch.refl _ _).drew); rintro e3 w3 ⟨rfl, s1⟩; have S1 := Aside0.mk s1; have KP := Aside0.mk (blk_cell s1.l 2); clear s1)) | (go_at_call 7; go_must (refine (K7.out w3 S1.out).mono ?_; rintro e4 w4 ⟨rfl, s2⟩; have S2 := Aside0.mk s2; clear KP; have KP := Aside0.mk (blk_cell s2.l 2); clear s2)))
            go_wp2_with fail
            go_meet
            exact ⟨er1, t1, r1, rfl, rfl, ⟨HS1.out⟩, ⟨HB1.out⟩, ⟨S2.out.m⟩, ⟨S2.out.r⟩, ⟨S2.out.i⟩, ⟨S2.out.c⟩⟩
          have hw1 : (x.what == 1) = false := beq_eq_false_iff_ne.2 e1
          clear e1
          by_cases e2 : x.what = 2
          · as_aux_lemma =>
            have hw2 : (x.what == 2) = true := beq_iff_eq.2 e2
            clear e2
            have hxn := HOK.out x (List.mem_of_getElem? HX.out)
            have hx2 := hxn.2
            have HXN := Aside0.mk hxn
            clear hxn
            by_cases hneg : x.n < 0
            · have hn0 : decide (x.n < 0) = true := decide_eq_true hneg
              go_wp2_with (go_at_call 9; go_must (refine (S0.out.fuse x.n).mono ?_; rintro e3 w3 ⟨rfl, s1⟩; have S1 := Aside0.mk s1; obtain ⟨v1, hg1, hr1⟩ := s1.r; have p1 := blk_cell s1.l 1; have d10 := blk_cell hg1 10; have f10 := blk_frozen hg1 10; simp [rcells] at d10 p1; clear s1 hg1 hr1))
              have S2 := (S1.out.setFuse x.n).setFuse 0
              have hr : fuseF r x.n = { r with fuse := 0 } := by simp [fuseF, hneg]
              have hsm := sim_fuse HS.out x.n
              rw [hr] at hsm
              go_meet
              exact ⟨0, _, _, rfl, rfl, ⟨hsm⟩, ⟨bd_fuse HBd.out x.n hx2⟩, ⟨S2.m⟩, ⟨S2.r⟩, ⟨S2.i⟩, ⟨S2.c⟩⟩
            · have hn0 : decide (x.n < 0) = false := decide_eq_false hneg
              have hr : fuseF r x.n = { r with fuse := x.n } := by simp only [fuseF, if_neg hneg]
              have HRF := Aside0.mk hr
              clear hr
              go_wp2_with (go_at_call 9; go_must (refine (S0.out.fuse x.n).mono ?_; rintro e3 w3 ⟨rfl, s1⟩; have S1 := Aside0.mk s1; obtain ⟨v1, hg1, hr1⟩ := s1.r; have p1 := blk_cell s1.l 1; have d10 := blk_cell hg1 10; have f10 := blk_frozen hg1 10; simp [rcells] at d10 p1; clear s1 hg1 hr1))
              have S2 := S1.out.setFuse x.n
              have hsm := sim_fuse HS.out x.n
              rw [HRF.out] at hsm
              go_meet
              exact ⟨0, _, _, rfl, rfl, ⟨hsm⟩, ⟨bd_fuse HBd.out x.n hx2⟩, ⟨S2.m⟩, ⟨S2.r⟩, ⟨S2.i⟩, ⟨S2.c⟩⟩
          have hw2 : (x.what == 2) = false := beq_eq_false_iff_ne.2 e2
          clear e2
          by_cases e3 : x.what = 3
          · as_aux_lemma =>
            have hw3 : (x.what == 3) = true := beq_iff_eq.2 e3
            clear e3
            go_wp2_with (first | (go_at_call 10; go_must (refine (S0.out.crash x.n HBd.out hk100).mono ?_; rintro e3 w3 ⟨rfl, s1⟩; have S1 := Aside0.mk s1; have p1 := blk_cell s1.l 1; simp at p1; clear s1)) | (go_at_call 11; go_must (refine (S1.out.rcrash x.n HBr.out hk100).mono ?_; rintro e4 w4 ⟨rfl, s2⟩; have S2 := Aside0.mk s2; clear s2)))
            go_meet
            exact ⟨0, _, _, rfl, rfl, ⟨sim_crash HS.out x.n⟩, ⟨bd_crash HBd.out x.n⟩, ⟨S2.out.m⟩, ⟨S2.out.r⟩, ⟨S2.out.i⟩, ⟨S2.out.c⟩⟩
          have hw3 : (x.what == 3) = false := beq_eq_false_iff_ne.2 e3
          clear e3
          by_cases e4 : x.what = 4
          · as_aux_lemma =>
            have hw4 : (x.what == 4) = true := beq_iff_eq.2 e4
            clear e4
            by_cases hx0 : x.n = 0
            · as_aux_lemma =>
              have K12 := Aside0.mk (S0.out.lose 0 (by omega) 0 rfl)
              have HX9 := Aside0.mk hx0
              rw [hx0] at q1
              clear hx0
              go_wp2_with (go_at_call 12; go_must (refine K12.out.mono ?_; rintro e3 w3 ⟨rfl, s1⟩; have S1 := Aside0.mk s1; obtain ⟨v1, hg1, hr1⟩ := s1.r; have p1 := blk_cell s1.l 1; simp at p1; rw [HX9.out] at p1; have d0 := blk_cell hg1 0; have d1 := blk_cell hg1 1; have d2 := blk_cell hg1 2; have d3 := blk_cell hg1 3; have d4 := blk_cell hg1 4; have f1 : ∀ i, w3.frozen? ⟨w1.heap.size, i, none⟩ = false := (fun i => blk_frozen hg1 i); simp [rcells] at d0 d1 d2 d3 d4; clear s1 hg1 hr1))
              go_still_tail 7, (by kernel_rfl)
              change wpList _ _ _ _ _ w3.drew
              have S2 := Aside0.mk (S1.out.later (Ch.refl _ _).drew)
              have q0' : w3.drew.cell? ⟨w1.heap.size, 0, none⟩ = _ := d0
              have q1' : w3.drew.cell? ⟨w1.heap.size, 1, none⟩ = _ := d1
              have q2' : w3.drew.cell? ⟨w1.heap.size, 2, none⟩ = _ := d2
              have q3' : w3.drew.cell? ⟨w1.heap.size, 3, none⟩ = _ := d3
              have q4' : w3.drew.cell? ⟨w1.heap.size, 4, none⟩ = _ := d4
              have f2 : ∀ i, w3.drew.frozen? ⟨w1.heap.size, i, none⟩ = false := f1
              clear d0 d1 d2 d3 d4 f1 p1 S1
              generalize hw4' : w3.drew = w4 at S2 q0' q1' q2' q3' q4' f2 ⊢
              clear hw4'
              go_wp2_with fail
              have S3 := S2.out.setSide 0 (by omega) (.slice none 0 0) (.slice none 0 0) ⟨[], [], false, false, true⟩ (Kd.R_nil _ _ _ _ _) (Kd.R_nil _ _ _ _ _)
              go_meet
              exact ⟨0, _, _, rfl, rfl, ⟨sim_lose HS.out 0 (by omega)⟩, ⟨bd_lose HBd.out 0 (by omega)⟩, ⟨S3.m⟩, ⟨S3.r⟩, ⟨S3.i⟩, ⟨S3.c⟩⟩
            by_cases hx1 : x.n = 1
            · as_aux_lemma =>
              have K12 := Aside0.mk (S0.out.lose 1 (by omega) 1 rfl)
              have HX9 := Aside0.mk hx1
              rw [hx1] at q1
              clear hx1
              go_wp2_with (go_at_call 12; go_must (refine K12.out.mono ?_; rintro e3 w3 ⟨rfl, s1⟩; have S1 := Aside0.mk s1; obtain ⟨v1, hg1, hr1⟩ := s1.r; have p1 := blk_cell s1.l 1; simp at p1; rw [HX9.out] at p1; have d0 := blk_cell hg1 5; have d1 := blk_cell hg1 6; have d2 := blk_cell hg1 7; have d3 := blk_cell hg1 8; have d4 := blk_cell hg1 9; have f1 : ∀ i, w3.frozen? ⟨w1.heap.size, i, none⟩ = false := (fun i => blk_frozen hg1 i); simp [rcells] at d0 d1 d2 d3 d4; clear s1 hg1 hr1))
              go_still_tail 7, (by kernel_rfl)
              change wpList _ _ _ _ _ w3.drew
              have S2 := Aside0.mk (S1.out.later (Ch.refl _ _).drew)
              have q0' : w3.drew.cell? ⟨w1.heap.size, 5, none⟩ = _ := d0
              have q1' : w3.drew.cell? ⟨w1.heap.size, 6, none⟩ = _ := d1
              have q2' : w3.drew.cell? ⟨w1.heap.size, 7, none⟩ = _ := d2
              have q3' : w3.drew.cell? ⟨w1.heap.size, 8, none⟩ = _ := d3
              have q4' : w3.drew.cell? ⟨w1.heap.size, 9, none⟩ = _ := d4
              have f2 : ∀ i, w3.drew.frozen? ⟨w1.heap.size, i, none⟩ = false := f1
              clear d0 d1 d2 d3 d4 f1 p1 S1
              generalize hw4' : w3.drew = w4 at S2 q0' q1' q2' q3' q4' f2 ⊢
              clear hw4'
              go_wp2_with fail
              have S3 := S2.out.setSide 1 (by omega) (.slice none 0 0) (.slice none 0 0) ⟨[], [], false, false, true⟩ (Kd.R_nil _ _ _ _ _) (Kd.R_nil _ _ _ _ _)
              go_meet
              exact ⟨0, _, _, rfl, rfl, ⟨sim_lose HS.out 1 (by omega)⟩, ⟨bd_lose HBd.out 1 (by omega)⟩, ⟨S3.m⟩, ⟨S3.r⟩, ⟨S3.i⟩, ⟨S3.c⟩⟩
            have hn0 : (x.n == 0) = false := beq_eq_false_iff_ne.2 hx0
            have hn1 : (x.n == 1) = false := beq_eq_false_iff_ne.2 hx1
            have K12 := Aside0.mk (lose_none w.heap.size x.n w2 (by omega))
            clear hx0 hx1
            go_wp2_with (go_at_call 12; go_must (refine K12.out.mono ?_; rintro e3 w3 ⟨rfl, rfl⟩))
            go_meet
            exact ⟨0, _, _, rfl, rfl, ⟨HS.out⟩, ⟨bd_same HBd.out⟩, ⟨S0.out.m⟩, ⟨S0.out.r⟩, ⟨S0.out.i⟩, ⟨S0.out.c⟩⟩
          have hw4 : (x.what == 4) = false := beq_eq_false_iff_ne.2 e4
          clear e4
          by_cases e5 : x.what = 5
          · as_aux_lemma =>
            have hw5 : (x.what == 5) = true := beq_iff_eq.2 e5
            clear e5
            by_cases hx0 : x.n = 0
            · as_aux_lemma =>
              have K13 := Aside0.mk (S0.out.spoil 0 (by omega) 0 rfl hb)
              have HX9 := Aside0.mk hx0
              rw [hx0] at q1
              clear hx0
              go_wp2_with (go_at_call 13; go_must (refine K13.out.mono ?_; rintro e3 w3 ⟨rfl, s1⟩; have S1 := Aside0.mk s1; obtain ⟨v1, hg1, hr1⟩ := s1.r; have p1 := blk_cell s1.l 1; have p2 := blk_cell s1.l 2; simp at p1 p2; rw [HX9.out] at p1; have d4 := blk_cell hg1 4; simp [rcells] at d4; have n1 := blk_lt s1.l; have n2 := blk_lt hg1; clear s1 hg1 hr1))
              go_region_held3 (fun w' => w'.cell? ⟨wo.heap.size, 1, none⟩ = some (.int .i64 0) ∧ w'.cell? ⟨wo.heap.size, 2, none⟩ = some (.slice B x.b.length cB) ∧ w'.cell? ⟨w1.heap.size, 4, none⟩ = some (.bool r.s0.lost)) (first | (with_reducible exact KP.out) | (with_reducible exact KP2.out) | go_keep) ((refine ap8s w.heap.size (wanted_none rfl) (.tmp 133) (.tmp 135) rfl (.slice (some ⟨w3.heap.size, 0, none⟩) 0 0) [] x.b B x.b.length cB (fun j => w3.heap.size ≤ j) rfl rfl ?aO ?aR ?aF ?aS ?aL ?_; (case aO => exact R_empty B8 5 w3.drew w.heap.size _ S1.out.c.size (Nat.le_refl _)); (case aR => exact Kd.C_below HCB.out ((S1.out.c.drew.alloc _).quiet (fun _ h => h.elim))); (case aF => exact fun j hj => Nat.le_trans (by simp) hj); (case aS => exact Nat.le_trans S1.out.c.size (by simp)); (case aL => exact (show ([] : List Int).length + _ ≤ _ by rw [List.length_nil]; omega)); intro v5 w5 ho hg hat; obtain ⟨A5, c5, rfl⟩ := Kd.R_slice ho; have C5 := Aside0.mk ((((Ch.refl w3 (fun _ => False)).drew).alloc _).then_ hg (fun j hj => .inr (by simp [Value.ownBlock] at hj; omega))); have H5 := Aside0.mk (show B8.R 5 w5 w.heap.size (fun j => w3.heap.size ≤ j) (.slice A5 x.b.length c5) x.b from ho); have S2 := Aside0.mk (S1.out.later C5.out); obtain ⟨v2, hg2, hr2⟩ := S2.out.r; have z1 := blk_cell S2.out.l 1; have z2 := blk_cell S2.out.l 2; simp at z1 z2; rw [HX9.out] at z1; have z4 := blk_cell hg2 4; simp [rcells] at z4; have KP := Aside0.mk (And.intro z1 (And.intro z2 z4)); have S3 := Aside0.mk (S2.out.setSide 0 (by omega) (.slice A5 x.b.length c5) (.slice none 0 0) ⟨x.b, [], false, false, r.s0.lost⟩ (Kd.R_mono H5.out (fun j hj => .inl (fun e => Nat.lt_irrefl _ (Nat.lt_of_lt_of_le (Kd.R_lt S1.out.i j e) hj)))) (Kd.R_nil _ _ _ _ _)); obtain ⟨v6, hg6, hr6⟩ := S3.out.r; have a1 := blk_cell S3.out.l 1; have a2 := blk_cell S3.out.l 2; simp only [side5] at a1 a2 hg6; have a4 := blk_cell hg6 4; simp [rcells, Tp.put] at a1 a2 a4; rw [HX9.out] at a1; have KP2 : Aside0 ((((((w5.setCell ⟨w1.heap.size, 0, none⟩ (.slice A5 x.b.length c5)).setCell ⟨w1.heap.size, 1, none⟩ (.slice none 0 0)).setCell ⟨w1.heap.size, 2, none⟩ (.bool false)).setCell ⟨w1.heap.size, 3, none⟩ (.bool false)).setCell ⟨w1.heap.size, 4, none⟩ (.bool r.s0.lost)).cell? ⟨wo.heap.size, 1, none⟩ = some (.int .i64 0) ∧ (((((w5.setCell ⟨w1.heap.size, 0, none⟩ (.slice A5 x.b.length c5)).setCell ⟨w1.heap.size, 1, none⟩ (.slice none 0 0)).setCell ⟨w1.heap.size, 2, none⟩ (.bool false)).setCell ⟨w1.heap.size, 3, none⟩ (.bool false)).setCell ⟨w1.heap.size, 4, none⟩ (.bool r.s0.lost)).cell? ⟨wo.heap.size, 2, none⟩ = some (.slice B x.b.length cB) ∧ (((((w5.setCell ⟨w1.heap.size, 0, none⟩ (.slice A5 x.b.length c5)).setCell ⟨w1.heap.size, 1, none⟩ (.slice none 0 0)).setCell ⟨w1.heap.size, 2, none⟩ (.bool false)).setCell ⟨w1.heap.size, 3, none⟩ (.bool false)).setCell ⟨w1.heap.size, 4, none⟩ (.bool r.s0.lost)).cell? ⟨w1.heap.size, 4, none⟩ = some (.bool r.s0.lost)) := ⟨⟨a1, a2, a4⟩⟩; clear a1 a2 a4 hg6 hr6; have G2 := Aside0.mk hg2; have f2 : ∀ i, w5.frozen? ⟨w1.heap.size, i, none⟩ = false := (fun i => blk_frozen hg2 i); have y0 := blk_cell hg2 0; have y1 := blk_cell hg2 1; have y2 := blk_cell hg2 2; have y3 := blk_cell hg2 3; simp [rcells] at y0 y1 y2 y3; clear ho hg hat hg2 hr2))
              go_wp2_with fail
              go_meet
              exact ⟨0, _, _, rfl, rfl, ⟨sim_spoil HS.out 0 (by omega) x.b⟩, ⟨bd_spoil HBd.out 0 (by omega) x.b hb⟩, ⟨S3.out.m⟩, ⟨S3.out.r⟩, ⟨S3.out.i⟩, ⟨S3.out.c⟩⟩
            by_cases hx1 : x.n = 1
            · as_aux_lemma =>
              have K13 := Aside0.mk (S0.out.spoil 1 (by omega) 1 rfl hb)
              have HX9 := Aside0.mk hx1
              rw [hx1] at q1
              clear hx1
              go_wp2_with (go_at_call 13; go_must (refine K13.out.mono ?_; rintro e3 w3 ⟨rfl, s1⟩; have S1 := Aside0.mk s1; obtain ⟨v1, hg1, hr1⟩ := s1.r; have p1 := blk_cell s1.l 1; have p2 := blk_cell s1.l 2; simp at p1 p2; rw [HX9.out] at p1; have d4 := blk_cell hg1 9; simp [rcells] at d4; have n1 := blk_lt s1.l; have n2 := blk_lt hg1; clear s1 hg1 hr1))
              go_region_held3 (fun w' => w'.cell? ⟨wo.heap.size, 1, none⟩ = some (.int .i64 1) ∧ w'.cell? ⟨wo.heap.size, 2, none⟩ = some (.slice B x.b.length cB) ∧ w'.cell? ⟨w1.heap.size, 9, none⟩ = some (.bool r.s1.lost)) (first | (with_reducible exact KP.out) | (with_reducible exact KP2.out) | go_keep) ((refine ap8s w.heap.size (wanted_none rfl) (.tmp 133) (.tmp 135) rfl (.slice (some ⟨w3.heap.size, 0, none⟩) 0 0) [] x.b B x.b.length cB (fun j => w3.heap.size ≤ j) rfl rfl ?aO ?aR ?aF ?aS ?aL ?_; (case aO => exact R_empty B8 5 w3.drew w.heap.size _ S1.out.c.size (Nat.le_refl _)); (case aR => exact Kd.C_below HCB.out ((S1.out.c.drew.alloc _).quiet (fun _ h => h.elim))); (case aF => exact fun j hj => Nat.le_trans (by simp) hj); (case aS => exact Nat.le_trans S1.out.c.size (by simp)); (case aL => exact (show ([] : List Int).length + _ ≤ _ by rw [List.length_nil]; omega)); intro v5 w5 ho hg hat; obtain ⟨A5, c5, rfl⟩ := Kd.R_slice ho; have C5 := Aside0.mk ((((Ch.refl w3 (fun _ => False)).drew).alloc _).then_ hg (fun j hj => .inr (by simp [Value.ownBlock] at hj; omega))); have H5 := Aside0.mk (show B8.R 5 w5 w.heap.size (fun j => w3.heap.size ≤ j) (.slice A5 x.b.length c5) x.b from ho); have S2 := Aside0.mk (S1.out.later C5.out); obtain ⟨v2, hg2, hr2⟩ := S2.out.r; have z1 := blk_cell S2.out.l 1; have z2 := blk_cell S2.out.l 2; simp at z1 z2; rw [HX9.out] at z1; have z4 := blk_cell hg2 9; simp [rcells] at z4; have KP := Aside0.mk (And.intro z1 (And.intro z2 z4)); have S3 := Aside0.mk (S2.out.setSide 1 (by omega) (.slice A5 x.b.length c5) (.slice none 0 0) ⟨x.b, [], false, false, r.s1.lost⟩ (Kd.R_mono H5.out (fun j hj => .inl (fun e => Nat.lt_irrefl _ (Nat.lt_of_lt_of_le (Kd.R_lt S1.out.i j e) hj)))) (Kd.R_nil _ _ _ _ _)); obtain ⟨v6, hg6, hr6⟩ := S3.out.r; have a1 := blk_cell S3.out.l 1; have a2 := blk_cell S3.out.l 2; simp only [side5] at a1 a2 hg6; have a4 := blk_cell hg6 9; simp [rcells, Tp.put] at a1 a2 a4; rw [HX9.out] at a1; have KP2 : Aside0 ((((((w5.setCell ⟨w1.heap.size, 5, none⟩ (.slice A5 x.b.length c5)).setCell ⟨w1.heap.size, 6, none⟩ (.slice none 0 0)).setCell ⟨w1.heap.size, 7, none⟩ (.bool false)).setCell ⟨w1.heap.size, 8, none⟩ (.bool false)).setCell ⟨w1.heap.size, 9, none⟩ (.bool r.s1.lost)).cell? ⟨wo.heap.size, 1, none⟩ = some (.int .i64 1) ∧ (((((w5.setCell ⟨w1.heap.size, 5, none⟩ (.slice A5 x.b.length c5)).setCell ⟨w1.heap.size, 6, none⟩ (.slice none 0 0)).setCell ⟨w1.heap.size, 7, none⟩ (.bool false)).setCell ⟨w1.heap.size, 8, none⟩ (.bool false)).setCell ⟨w1.heap.size, 9, none⟩ (.bool r.s1.lost)).cell? ⟨wo.heap.size, 2, none⟩ = some (.slice B x.b.length cB) ∧ (((((w5.setCell ⟨w1.heap.size, 5, none⟩ (.slice A5 x.b.length c5)).setCell ⟨w1.heap.size, 6, none⟩ (.slice none 0 0)).setCell ⟨w1.heap.size, 7, none⟩ (.bool false)).setCell ⟨w1.heap.size, 8, none⟩ (.bool false)).setCell ⟨w1.heap.size, 9, none⟩ (.bool r.s1.lost)).cell? ⟨w1.heap.size, 9, none⟩ = some (.bool r.s1.lost)) := ⟨⟨a1, a2, a4⟩⟩; clear a1 a2 a4 hg6 hr6; have G2 := Aside0.mk hg2; have f2 : ∀ i, w5.frozen? ⟨w1.heap.size, i, none⟩ = false := (fun i => blk_frozen hg2 i); have y0 := blk_cell hg2 5; have y1 := blk_cell hg2 6; have y2 := blk_cell hg2 7; have y3 := blk_cell hg2 8; simp [rcells] at y0 y1 y2 y3; clear ho hg hat hg2 hr2))
              go_wp2_with fail
              go_meet
              exact ⟨0, _, _, rfl, rfl, ⟨sim_spoil HS.out 1 (by omega) x.b⟩, ⟨bd_spoil HBd.out 1 (by omega) x.b hb⟩, ⟨S3.out.m⟩, ⟨S3.out.r⟩, ⟨S3.out.i⟩, ⟨S3.out.c⟩⟩
            have hn0 : (x.n == 0) = false := beq_eq_false_iff_ne.2 hx0
            have hn1 : (x.n == 1) = false := beq_eq_false_iff_ne.2 hx1
            have K13 := Aside0.mk (spoil_none w.heap.size x.n A2 c2 x.b.length w2 (by omega))
            clear hx0 hx1
            go_wp2_with (go_at_call 13; go_must (refine K13.out.mono ?_; rintro e3 w3 ⟨rfl, rfl⟩))
            go_meet
            exact ⟨0, _, _, rfl, rfl, ⟨HS.out⟩, ⟨bd_same HBd.out⟩, ⟨S0.out.m⟩, ⟨S0.out.r⟩, ⟨S0.out.i⟩, ⟨S0.out.c⟩⟩
          have hw5 : (x.what == 5) = false := beq_eq_false_iff_ne.2 e5
          clear e5
          go_wp2_with fail
          go_meet
          exact ⟨0, _, _, rfl, rfl, ⟨HS.out⟩, ⟨bd_same HBd.out⟩, ⟨S0.out.m⟩, ⟨S0.out.r⟩, ⟨S0.out.i⟩, ⟨S0.out.c⟩⟩
        case rest => as_aux_lemma =>
          obtain ⟨e, t', r', rfl, rfl, HS', HB', HT', HR', HI, HC'⟩ := hcut
          go_wp2_with fail
          go_loopw [10] (fun u w' => ∃ (m : Nat) (ys : List Int), u = .int .i64 m ∧ Aside0 (m ≤ x.b.length) ∧ Aside0 (TapeM w' w.heap.size (fun j => ¬ (Value.slice A2 x.b.length c2).ownBlock = some j) w.heap.size t') ∧ Aside0 (TapeR w' w.heap.size (fun j => ¬ (Value.slice A2 x.b.length c2).ownBlock = some j) w1.heap.size r') ∧ Aside0 (B8.R 5 w' wo.heap.size (fun _ => True) (.slice A2 x.b.length c2) ys) ∧ Aside0 (Ch w w' (fun _ => False))) (fun u _ => x.b.length - (intOf u).toNat)
          case atStart => exact ⟨0, x.b, rfl, ⟨Nat.zero_le _⟩, HT', HR', HI, HC'⟩
          case round =>
            clear HT' HR' HI HC'
            obtain ⟨m, ys, rfl, HM, HT', HR', HI, HC'⟩ := hrel
            by_cases hm : m < x.b.length
            · have hyl := (Kd.R_reads' HI.out).1
              obtain ⟨gi, cap, hv, hgi, hgl, cells, hcells⟩ := Kd.R_form HI.out (by omega)
              obtain ⟨hv1, hv2, hv3⟩ : A2 = some ⟨gi, 0, none⟩ ∧ x.b.length = ys.length ∧ c2 = cap := by injection hv with a b c; exact ⟨a, b, c⟩
              subst hv1 hv3
              obtain ⟨y, hcy, hfy⟩ := R_cell8 HI.out m hm
              have HBc := Aside0.mk hcells
              have HGI := Aside0.mk hgi
              have HLN := Aside0.mk hv2
              clear hv hyl hcells hv2
              go_wp2_with fail
              have C := (Ch.refl wr (fun j => j = gi)).setCell (p := ⟨gi, m, none⟩) (.inl rfl) (.int .u8 ((y + 1) % 256))
              have N1 := Aside0.mk (HT'.out.later C (HT'.out.ne HBc.out) (fun j hj e => hj (by subst e; simp [Value.ownBlock])))
              have N2 := Aside0.mk (HR'.out.later C (HR'.out.ne HBc.out) (fun j hj e => hj (by subst e; simp [Value.ownBlock])))
              have N3 := Aside0.mk (R_put8 HI.out m ((y + 1) % 256))
              have N4 := Aside0.mk (HC'.out.then_ C (fun j hj => .inr (by have := HC.out.size; have := HGI.out; omega)))
              clear C
              go_roundw
              case rel => exact ⟨m + 1, _, by go_num, ⟨hm⟩, N1, N2, N3, N4⟩
              case measure => simp [intOf]; omega
            · have HT2 : Aside0 (TapeM wr w.heap.size (fun _ => True) w.heap.size t') := ⟨HT'.out.mono (fun _ _ => trivial)⟩
              have HR2 : Aside0 (TapeR wr w.heap.size (fun _ => True) w1.heap.size r') := ⟨HR'.out.mono (fun _ _ => trivial)⟩
              clear HT' HR' HI
              go_wp2_with fail
              go_loopw [11] (fun u w' => ∃ (m : Nat), u = .int .i64 m ∧ Aside0 (m ≤ 2) ∧ Aside0 (TapeM w' w.heap.size (fun _ => True) w.heap.size t') ∧ Aside0 (TapeR w' w.heap.size (fun _ => True) w1.heap.size r') ∧ Aside0 (Ch w w' (fun _ => False))) (fun u _ => 2 - (intOf u).toNat)
              case atStart => exact ⟨0, rfl, ⟨by omega⟩, HT2, HR2, HC'⟩
              case round =>
                clear HT2 HR2 HC'
                obtain ⟨m, rfl, HM, HT', HR', HC'⟩ := hrel
                obtain ⟨tt, htt⟩ : ∃ tt, tt = t' := ⟨_, rfl⟩
                obtain ⟨rr, hrr⟩ : ∃ rr, rr = r' := ⟨_, rfl⟩
                rw [← htt] at HS' HB' HT'
                rw [← hrr] at HS' HR'
                have HTT := Aside0.mk htt
                have HRR0 := Aside0.mk hrr
                clear htt hrr
                obtain hm | hm | hm : m = 0 ∨ m = 1 ∨ m = 2 := by have := HM.out; omega
                all_goals subst hm
                · have hrs : (tt.s0).lost = rr.s0.lost := HS'.out.s0.lost
                  have K0 := Aside0.mk (read_calls w.heap.size 0 tt wr w.heap.size _ HT'.out (by omega) (by have := HB'.out.b0; simp [Tp.side]; omega) (by have := HB'.out.l0; simp [Tp.side]; omega))
                  obtain ⟨⟨vb0, vl0, vb1, vl1⟩, hh, hrr⟩ := HR'.out
                  have HH := Aside0.mk hh
                  have HRR := Aside0.mk hrr
                  have HRb : Aside0 (B8.R 5 wr w.heap.size (fun _ => True) vb0 rr.s0.b) := ⟨hrr.b0⟩
                  have HRl : Aside0 (B8.R 5 wr w.heap.size (fun _ => True) vl0 rr.s0.l) := ⟨hrr.l0⟩
                  obtain ⟨Ab, cb, hbb, hcb, _⟩ := R_open HRb.out
                  obtain ⟨Al, cl, hbl, hcl, _⟩ := R_open HRl.out
                  subst hbb hbl
                  clear hh hrr
                  rcases hlo : rr.s0.lost with _ | _
                  · have hlt : (tt.side 0).lost = false := hrs.trans hlo
                    have HLO := Aside0.mk hlo
                    have HLT := Aside0.mk hlt
                    clear hrs hlo hlt
                    go_wp2_with (go_at_call 14; go_must (refine K0.out.mono ?_; rintro e' w3 ⟨v3, rfl, ho3, hc3⟩; rw [HLT.out] at ho3 ⊢; obtain ⟨A3, c3, rfl⟩ := Kd.R_slice ho3; have H3 := Aside0.mk (show B8.R 5 w3 wr.heap.size (fun _ => True) (.slice A3 (tt.side 0).all.length c3) (tt.side 0).all from ho3); have C3 := Aside0.mk hc3; have G3 := Aside0.mk (hc3.blk HH.out (fun h => h)); have d0 := blk_cell G3.out 0; have d1 := blk_cell G3.out 1; have d2 := blk_cell G3.out 2; have d3 := blk_cell G3.out 3; have d4 := blk_cell G3.out 4; simp [rcells, HLO.out] at d0 d1 d2 d3 d4; clear ho3 hc3))
                    have hbl : rr.s0.b.length ≤ 1000000 := by have := (HS'.out.bd HB'.out).b0; omega
                    have hll : rr.s0.l.length ≤ 1000000 := by have := (HS'.out.bd HB'.out).l0; omega
                    obtain ⟨ys, hys⟩ : ∃ ys, ys = (tt.side 0).all := ⟨_, rfl⟩
                    rw [← hys] at H3
                    rw [← hys]
                    have hyr : ys = rr.s0.upto (bits .or .i64 (rr.s0.l.length : Int) 1) := by
                      rw [hys, Lib.or_one rr.s0.l.length (by omega)]
                      exact sim_all HS'.out.s0 _ (by omega) (tmod_odd _)
                    have hyl : ys.length ≤ 2000000 := by
                      rw [hys]
                      have h1 := HB'.out.b0
                      have h2 := HB'.out.l0
                      simp only [Sd.all, Tp.side]
                      simp
                      split
                      · split <;> simp <;> omega
                      · omega
                    obtain ⟨kp, hkp⟩ : ∃ kp, bits .or .i64 (rr.s0.l.length : Int) 1 = kp := ⟨_, rfl⟩
                    rw [hkp] at hyr
                    have hS : ∀ W', Ch w3 W' (fun _ => False) → W'.cell? ⟨w1.heap.size, 0, none⟩ = some (.slice Ab rr.s0.b.length cb) ∧ W'.cell? ⟨w1.heap.size, 1, none⟩ = some (.slice Al rr.s0.l.length cl) ∧ W'.cell? ⟨w1.heap.size, 2, none⟩ = some (.bool rr.s0.wet) ∧ W'.cell? ⟨w1.heap.size, 3, none⟩ = some (.bool rr.s0.swap) ∧ W'.cell? ⟨w1.heap.size, 4, none⟩ = some (.bool false) := by
                      intro W' hc
                      have hg := hc.blk G3.out (fun h => h)
                      exact ⟨blk_cell hg 0, blk_cell hg 1, blk_cell hg 2, blk_cell hg 3, by rw [blk_cell hg 4]; simp [rcells, HLO.out]⟩
                    have K16 := Aside0.mk (all16 (S := fun W' => W'.cell? ⟨w1.heap.size, 0, none⟩ = some (.slice Ab rr.s0.b.length cb) ∧ W'.cell? ⟨w1.heap.size, 1, none⟩ = some (.slice Al rr.s0.l.length cl) ∧ W'.cell? ⟨w1.heap.size, 2, none⟩ = some (.bool rr.s0.wet) ∧ W'.cell? ⟨w1.heap.size, 3, none⟩ = some (.bool rr.s0.swap) ∧ W'.cell? ⟨w1.heap.size, 4, none⟩ = some (.bool false)) ⟨rr.s0.b, rr.s0.l, rr.s0.swap, rr.s0.wet, false⟩ (.slice Ab rr.s0.b.length cb) (.slice Al rr.s0.l.length cl) kp ys w.heap.size (fun _ => True) hyr (C3.out.R HRb.out (fun _ _ h => h)) (C3.out.R HRl.out (fun _ _ h => h)) hbl hll (Nat.le_trans HC'.out.size C3.out.size) hS)
                    have K15 := Aside0.mk (same15 (S := fun W' => W'.cell? ⟨w1.heap.size, 0, none⟩ = some (.slice Ab rr.s0.b.length cb) ∧ W'.cell? ⟨w1.heap.size, 1, none⟩ = some (.slice Al rr.s0.l.length cl) ∧ W'.cell? ⟨w1.heap.size, 2, none⟩ = some (.bool rr.s0.wet) ∧ W'.cell? ⟨w1.heap.size, 3, none⟩ = some (.bool rr.s0.swap) ∧ W'.cell? ⟨w1.heap.size, 4, none⟩ = some (.bool false)) A3 c3 ys (Kd.R_reads' H3.out).2.2 (by omega) hS)
                    clear hbl hll hys hyr hyl hS
                    go_region_held3 (fun w' => w'.cell? ⟨w1.heap.size, 0, none⟩ = some (.slice Ab rr.s0.b.length cb) ∧ w'.cell? ⟨w1.heap.size, 1, none⟩ = some (.slice Al rr.s0.l.length cl) ∧ w'.cell? ⟨w1.heap.size, 2, none⟩ = some (.bool rr.s0.wet) ∧ w'.cell? ⟨w1.heap.size, 3, none⟩ = some (.bool rr.s0.swap) ∧ w'.cell? ⟨w1.heap.size, 4, none⟩ = some (.bool false)) (first | go_keep | exact KP4.out) (first | (go_at_call 16; go_must (refine (K16.out _ ?c1).mono ?_; (case c1 => first | exact Ch.refl _ _ | exact (Ch.refl _ _).drew); rintro e4 w4 ⟨A4, c4, rfl, hC4, hc4, hs4⟩; have H4 := Aside0.mk hC4; have C4 := Aside0.mk hc4; have KP4 := Aside0.mk hs4; clear hC4 hc4 hs4)) | (go_at_call 15; go_must (refine (K15.out w4 A4 c4 C4.out H4.out).mono ?_; rintro e5 w5 ⟨rfl, hc5, hs5⟩; have C5 := Aside0.mk hc5; clear KP4; have KP4 := Aside0.mk hs5; clear hc5 hs5)))
                    have C35 := Aside0.mk (C3.out.then_ C5.out (fun _ h => h.elim))
                    have T3 := Aside0.mk (HT'.out.later C35.out (fun h => h) (fun _ _ h => h))
                    have R3 := Aside0.mk (HR'.out.later C35.out (fun h => h) (fun _ _ h => h))
                    have C4 := Aside0.mk (HC'.out.then_ C35.out (fun _ h => h.elim))
                    rw [HTT.out] at T3
                    rw [HRR0.out] at R3
                    go_wp2_with fail
                    go_roundw
                    case rel => exact ⟨1, by go_num, ⟨by omega⟩, T3, R3, C4⟩
                    case measure => simp [intOf]
                  · have hlt : (tt.side 0).lost = true := hrs.trans hlo
                    have HLO := Aside0.mk hlo
                    have HLT := Aside0.mk hlt
                    clear hrs hlo hlt
                    go_wp2_with (go_at_call 14; go_must (refine K0.out.mono ?_; rintro e' w3 ⟨v3, rfl, ho3, hc3⟩; rw [HLT.out] at ho3 ⊢; obtain ⟨A3, c3, rfl⟩ := Kd.R_slice ho3; have C3 := Aside0.mk hc3; have G3 := Aside0.mk (hc3.blk HH.out (fun h => h)); have d4 := blk_cell G3.out 4; simp [rcells, HLO.out] at d4; clear ho3 hc3))
                    have T3 := Aside0.mk (HT'.out.later C3.out (fun h => h) (fun _ _ h => h))
                    have R3 := Aside0.mk (HR'.out.later C3.out (fun h => h) (fun _ _ h => h))
                    have C4 := Aside0.mk (HC'.out.then_ C3.out (fun _ h => h.elim))
                    rw [HTT.out] at T3
                    rw [HRR0.out] at R3
                    go_roundw
                    case rel => exact ⟨1, by go_num, ⟨by omega⟩, T3, R3, C4⟩
                    case measure => simp [intOf]
                · have hrs : (tt.s1).lost = rr.s1.lost := HS'.out.s1.lost
                  have K0 := Aside0.mk (read_calls w.heap.size 1 tt wr w.heap.size _ HT'.out (by omega) (by have := HB'.out.b1; simp [Tp.side]; omega) (by have := HB'.out.l1; simp [Tp.side]; omega))
                  obtain ⟨⟨vb0, vl0, vb1, vl1⟩, hh, hrr⟩ := HR'.out
                  have HH := Aside0.mk hh
                  have HRR := Aside0.mk hrr
                  have HRb : Aside0 (B8.R 5 wr w.heap.size (fun _ => True) vb1 rr.s1.b) := ⟨hrr.b1⟩
                  have HRl : Aside0 (B8.R 5 wr w.heap.size (fun _ => True) vl1 rr.s1.l) := ⟨hrr.l1⟩
                  obtain ⟨Ab, cb, hbb, hcb, _⟩ := R_open HRb.out
                  obtain ⟨Al, cl, hbl, hcl, _⟩ := R_open HRl.out
                  subst hbb hbl
                  clear hh hrr
                  rcases hlo : rr.s1.lost with _ | _
                  · have hlt : (tt.side 1).lost = false := hrs.trans hlo
                    have HLO := Aside0.mk hlo
                    have HLT := Aside0.mk hlt
                    clear hrs hlo hlt
                    go_wp2_with (go_at_call 14; go_must (refine K0.out.mono ?_; rintro e' w3 ⟨v3, rfl, ho3, hc3⟩; rw [HLT.out] at ho3 ⊢; obtain ⟨A3, c3, rfl⟩ := Kd.R_slice ho3; have H3 := Aside0.mk (show B8.R 5 w3 wr.heap.size (fun _ => True) (.slice A3 (tt.side 1).all.length c3) (tt.side 1).all from ho3); have C3 := Aside0.mk hc3; have G3 := Aside0.mk (hc3.blk HH.out (fun h => h)); have d0 := blk_cell G3.out 5; have d1 := blk_cell G3.out 6; have d2 := blk_cell G3.out 7; have d3 := blk_cell G3.out 8; have d4 := blk_cell G3.out 9; simp [rcells, HLO.out] at d0 d1 d2 d3 d4; clear ho3 hc3))
                    have hbl : rr.s1.b.length ≤ 1000000 := by have := (HS'.out.bd HB'.out).b1; omega
                    have hll : rr.s1.l.length ≤ 1000000 := by have := (HS'.out.bd HB'.out).l1; omega
                    obtain ⟨ys, hys⟩ : ∃ ys, ys = (tt.side 1).all := ⟨_, rfl⟩
                    rw [← hys] at H3
                    rw [← hys]
                    have hyr : ys = rr.s1.upto (bits .or .i64 (rr.s1.l.length : Int) 1) := by
                      rw [hys, Lib.or_one rr.s1.l.length (by omega)]
                      exact sim_all HS'.out.s1 _ (by omega) (tmod_odd _)
                    have hyl : ys.length ≤ 2000000 := by
                      rw [hys]
                      have h1 := HB'.out.b1
                      have h2 := HB'.out.l1
                      simp only [Sd.all, Tp.side]
                      simp
                      split
                      · split <;> simp <;> omega
                      · omega
                    obtain ⟨kp, hkp⟩ : ∃ kp, bits .or .i64 (rr.s1.l.length : Int) 1 = kp := ⟨_, rfl⟩
                    rw [hkp] at hyr
                    have hS : ∀ W', Ch w3 W' (fun _ => False) → W'.cell? ⟨w1.heap.size, 5, none⟩ = some (.slice Ab rr.s1.b.length cb) ∧ W'.cell? ⟨w1.heap.size, 6, none⟩ = some (.slice Al rr.s1.l.length cl) ∧ W'.cell? ⟨w1.heap.size, 7, none⟩ = some (.bool rr.s1.wet) ∧ W'.cell? ⟨w1.heap.size, 8, none⟩ = some (.bool rr.s1.swap) ∧ W'.cell? ⟨w1.heap.size, 9, none⟩ = some (.bool false) := by
                      intro W' hc
                      have hg := hc.blk G3.out (fun h => h)
                      exact ⟨blk_cell hg 5, blk_cell hg 6, blk_cell hg 7, blk_cell hg 8, by rw [blk_cell hg 9]; simp [rcells, HLO.out]⟩
                    have K16 := Aside0.mk (all16 (S := fun W' => W'.cell? ⟨w1.heap.size, 5, none⟩ = some (.slice Ab rr.s1.b.length cb) ∧ W'.cell? ⟨w1.heap.size, 6, none⟩ = some (.slice Al rr.s1.l.length cl) ∧ W'.cell? ⟨w1.heap.size, 7, none⟩ = some (.bool rr.s1.wet) ∧ W'.cell? ⟨w1.heap.size, 8, none⟩ = some (.bool rr.s1.swap) ∧ W'.cell? ⟨w1.heap.size, 9, none⟩ = some (.bool false)) ⟨rr.s1.b, rr.s1.l, rr.s1.swap, rr.s1.wet, false⟩ (.slice Ab rr.s1.b.length cb) (.slice Al rr.s1.l.length cl) kp ys w.heap.size (fun _ => True) hyr (C3.out.R HRb.out (fun _ _ h => h)) (C3.out.R HRl.out (fun _ _ h => h)) hbl hll (Nat.le_trans HC'.out.size C3.out.size) hS)
                    have K15 := Aside0.mk (same15 (S := fun W' => W'.cell? ⟨w1.heap.size, 5, none⟩ = some (.slice Ab rr.s1.b.length cb) ∧ W'.cell? ⟨w1.heap.size, 6, none⟩ = some (.slice Al rr.s1.l.length cl) ∧ W'.cell? ⟨w1.heap.size, 7, none⟩ = some (.bool rr.s1.wet) ∧ W'.cell? ⟨w1.heap.size, 8, none⟩ = some (.bool rr.s1.swap) ∧ W'.cell? ⟨w1.heap.size, 9, none⟩ = some (.bool false)) A3 c3 ys (Kd.R_reads' H3.out).2.2 (by omega) hS)
                    clear hbl hll hys hyr hyl hS
                    go_region_held3 (fun w' => w'.cell? ⟨w1.heap.size, 5, none⟩ = some (.slice Ab rr.s1.b.length cb) ∧ w'.cell? ⟨w1.heap.size, 6, none⟩ = some (.slice Al rr.s1.l.length cl) ∧ w'.cell? ⟨w1.heap.size, 7, none⟩ = some (.bool rr.s1.wet) ∧ w'.cell? ⟨w1.heap.size, 8, none⟩ = some (.bool rr.s1.swap) ∧ w'.cell? ⟨w1.heap.size, 9, none⟩ = some (.bool false)) (first | go_keep | exact KP4.out) (first | (go_at_call 16; go_must (refine (K16.out _ ?c1).mono ?_; (case c1 => first | exact Ch.refl _ _ | exact (Ch.refl _ _).drew); rintro e4 w4 ⟨A4, c4, rfl, hC4, hc4, hs4⟩; have H4 := Aside0.mk hC4; have C4 := Aside0.mk hc4; have KP4 := Aside0.mk hs4; clear hC4 hc4 hs4)) | (go_at_call 15; go_must (refine (K15.out w4 A4 c4 C4.out H4.out).mono ?_; rintro e5 w5 ⟨rfl, hc5, hs5⟩; have C5 := Aside0.mk hc5; clear KP4; have KP4 := Aside0.mk hs5; clear hc5 hs5)))
                    have C35 := Aside0.mk (C3.out.then_ C5.out (fun _ h => h.elim))
                    have T3 := Aside0.mk (HT'.out.later C35.out (fun h => h) (fun _ _ h => h))
                    have R3 := Aside0.mk (HR'.out.later C35.out (fun h => h) (fun _ _ h => h))
                    have C4 := Aside0.mk (HC'.out.then_ C35.out (fun _ h => h.elim))
                    rw [HTT.out] at T3
                    rw [HRR0.out] at R3
                    go_wp2_with fail
                    go_roundw
                    case rel => exact ⟨2, by go_num, ⟨by omega⟩, T3, R3, C4⟩
                    case measure => simp [intOf]
                  · have hlt : (tt.side 1).lost = true := hrs.trans hlo
                    have HLO := Aside0.mk hlo
                    have HLT := Aside0.mk hlt
                    clear hrs hlo hlt
                    go_wp2_with (go_at_call 14; go_must (refine K0.out.mono ?_; rintro e' w3 ⟨v3, rfl, ho3, hc3⟩; rw [HLT.out] at ho3 ⊢; obtain ⟨A3, c3, rfl⟩ := Kd.R_slice ho3; have C3 := Aside0.mk hc3; have G3 := Aside0.mk (hc3.blk HH.out (fun h => h)); have d4 := blk_cell G3.out 9; simp [rcells, HLO.out] at d4; clear ho3 hc3))
                    have T3 := Aside0.mk (HT'.out.later C3.out (fun h => h) (fun _ _ h => h))
                    have R3 := Aside0.mk (HR'.out.later C3.out (fun h => h) (fun _ _ h => h))
                    have C4 := Aside0.mk (HC'.out.then_ C3.out (fun _ h => h.elim))
                    rw [HTT.out] at T3
                    rw [HRR0.out] at R3
                    go_roundw
                    case rel => exact ⟨2, by go_num, ⟨by omega⟩, T3, R3, C4⟩
                    case measure => simp [intOf]
                · go_wp2_with fail
                  rw [HTT.out] at HS' HB' HT'
                  rw [HRR0.out] at HS' HR'
                  go_roundw
                  case rel => exact ⟨k + 1, _, _, by go_num, ⟨hlt⟩, HS', HB', HT', HR', HC'⟩
                  case measure => simp [intOf]; omega
      · have hb1 : decide ((300 : Int) < (x.b.length : Int)) = true := decide_eq_true (by omega)
        have hb2 : decide (300 < x.b.length) = true := decide_eq_true (by omega)
        go_wp2_with fail
        have CA := (Ch.refl wo (fun _ => False)).alloc (.cells #[.int .i64 x.what, .int .i64 x.n, .slice B x.b.length cB] 34)
        go_roundw
        case rel => exact ⟨k + 1, t, r, by go_num, ⟨hlt⟩, HS, ⟨bd_same HBd.out⟩, ⟨HT.out.later CA (fun h => h) (fun _ _ h => h)⟩, ⟨HR.out.later CA (fun h => h) (fun _ _ h => h)⟩, ⟨HC.out.then_ CA (fun _ h => h.elim)⟩⟩
        case measure => simp [intOf]; omega
    · go_wp2_with (go_at_call 4; go_must (refine (answers_calls _).mono ?_; rintro e w3 ⟨rfl, hc3⟩; have C3 := Aside0.mk hc3; clear hc3))
      go_ret
      exact ⟨rfl, (HC.out.then_ C3.out (fun _ h => h.elim)).quiet (fun _ h => h.elim)⟩
set_option maxHeartbeats 400000 in
set_option maxRecDepth 100000 in
theorem long_calls (A : Option Addr) (n c : Nat) (w : World) (hn : 100 < n) :
    Calls Try.prog 3 #[.slice A n c] w fun e w' => e = .returned (.bool true) ∧ Below w.heap.size w w' := by
  have hn1 : decide ((100 : Int) < (n : Int)) = true := decide_eq_true (by omega)
  have hn2 : decide (100 < n) = true := decide_eq_true hn
  go_enter Try.func3, Try.ntmps3
  go_wp2_with (go_at_call 4; go_must (refine (answers_calls _).mono ?_; rintro e w3 ⟨rfl, hc3⟩; have C3 := Aside0.mk hc3; clear hc3))
  go_ret
  exact ⟨rfl, C3.out.quiet (fun _ h => h.elim)⟩
end Go.Proofs.Ytgehempmccponaa
