/- row[int], (*reader).stripe, row[Stripe], (*reader).object, row[Object]. -/
import Derived.Test.YtcpekifbbjnjmaaI
set_option linter.unusedVariables false
namespace Go.Proofs.Ytcpekifbbjnjmaa
open Go.RowKit Go.Proofs.YtcpekifbbjnjmaaW.PrintWords Go.Proofs.YtcpekifbbjnjmaaW.PrintLast Go.Proofs.YtcpekifbbjnjmaaW.PrintMore Go.Proofs.Ytcpekifbbjnjmaa.PRecBack
abbrev I64 : Kd Int := Kd.int .i64
theorem inf3 : (Try.prog.info? 3).map (fun i => (i.zero, i.size, i.bytes)) = some (some (.int .i64 0), 1, 8) := by kernel_rfl
theorem inf41 : (Try.prog.info? 41).map (fun i => (i.zero, i.size, i.bytes)) = some (some (.agg #[.int .i64 0, .int .i64 0, .slice none 0 0]), 3, 40) := by kernel_rfl
theorem inf44 : (Try.prog.info? 44).map (fun i => (i.zero, i.size, i.bytes)) = some (some (.agg #[.string ⟨#[]⟩, .int .i64 0, .int .i64 0, .slice none 0 0]), 4, 56) := by kernel_rfl
section
variable {ops : Array Oper} {rest : List Oper} {o : Oper} {a : Act} {Q : Exit → Act → World → Prop}
theorem apI {W : World} (base : Nat) (hgd : o.guard = none) (s x : Operand) (ho : o.op = .call { callee := .builtin .append, args := #[s, x], argTypes := #[24, 24] })
    (v : Value) (xs : List Int) (p : Int) (hs : a.eval s = v) (hx : a.eval x = .slice (some ⟨W.heap.size, 0, none⟩) 1 1)
    (HO : I64.R 3 W base (fun _ => True) v xs) (hbase : base ≤ W.heap.size) (hl : (xs.length + 1) * 8 ≤ 140737488355328)
    (h : ∀ v1 w1, I64.R 3 w1 base (fun _ => True) v1 (xs ++ [p]) → Ch W w1 (fun k => v.ownBlock = some k) → wpList Try.prog ops Q rest (a.put o.dst v1) w1) :
    wpList Try.prog ops Q (o :: rest) a (W.alloc (.cells #[.int .i64 p] 3)) :=
  apO I64 base hgd s x 24 3 (.int .i64 0) 8 ho Try.underlying24 inf3 rfl (by decide) (by omega) v xs p [.int .i64 p] (fun _ => True) (fun _ => False) hs hx rfl (fun _ hk => hk.elim) (fun _ _ => trivial) HO hbase hl fun v1 w1 hr hc _ => h v1 w1 hr hc
theorem apT {W : World} (base : Nat) (hgd : o.guard = none) (s x : Operand) (ho : o.op = .call { callee := .builtin .append, args := #[s, x], argTypes := #[22, 22] })
    (v : Value) (xs : List S41) (p : S41) (c0 c1 c2 : Value) (N : Nat) (hs : a.eval s = v) (hx : a.eval x = .slice (some ⟨W.heap.size, 0, none⟩) 1 1)
    (hp : k41.M W base (fun k => N ≤ k) p [c0, c1, c2]) (hN : ∀ k, v.ownBlock = some k → k < N)
    (HO : k41.R 41 W base (fun _ => True) v xs) (hbase : base ≤ W.heap.size) (hl : (xs.length + 1) * 40 ≤ 140737488355328)
    (h : ∀ v1 w1, k41.R 41 w1 base (fun _ => True) v1 (xs ++ [p]) → Ch W w1 (fun k => v.ownBlock = some k) → wpList Try.prog ops Q rest (a.put o.dst v1) w1) :
    wpList Try.prog ops Q (o :: rest) a (W.alloc (.cells #[c0, c1, c2] 41)) :=
  apO k41 base hgd s x 22 41 (.agg #[.int .i64 0, .int .i64 0, .slice none 0 0]) 40 ho Try.underlying22 inf41 rfl (by decide) (by omega) v xs p [c0, c1, c2] (fun _ => True) (fun k => N ≤ k) hs hx hp (fun k hk => ⟨trivial, fun e => by have := hN k e.symm; omega⟩) (fun _ _ => trivial) HO hbase hl fun v1 w1 hr hc _ => h v1 w1 hr hc
theorem apU {W : World} (base : Nat) (hgd : o.guard = none) (s x : Operand) (ho : o.op = .call { callee := .builtin .append, args := #[s, x], argTypes := #[23, 23] })
    (v : Value) (xs : List S44) (p : S44) (c0 c1 c2 c3 : Value) (N : Nat) (hs : a.eval s = v) (hx : a.eval x = .slice (some ⟨W.heap.size, 0, none⟩) 1 1)
    (hp : k44.M W base (fun k => N ≤ k) p [c0, c1, c2, c3]) (hN : ∀ k, v.ownBlock = some k → k < N)
    (HO : k44.R 44 W base (fun _ => True) v xs) (hbase : base ≤ W.heap.size) (hl : (xs.length + 1) * 56 ≤ 140737488355328)
    (h : ∀ v1 w1, k44.R 44 w1 base (fun _ => True) v1 (xs ++ [p]) → Ch W w1 (fun k => v.ownBlock = some k) → wpList Try.prog ops Q rest (a.put o.dst v1) w1) :
    wpList Try.prog ops Q (o :: rest) a (W.alloc (.cells #[c0, c1, c2, c3] 44)) :=
  apO k44 base hgd s x 23 44 (.agg #[.string ⟨#[]⟩, .int .i64 0, .int .i64 0, .slice none 0 0]) 56 ho Try.underlying23 inf44 rfl (by decide) (by omega) v xs p [c0, c1, c2, c3] (fun _ => True) (fun k => N ≤ k) hs hx hp (fun k hk => ⟨trivial, fun e => by have := hN k e.symm; omega⟩) (fun _ _ => trivial) HO hbase hl fun v1 w1 hr hc _ => h v1 w1 hr hc
end
/-- Rows of another type are as they were where only block g has changed. -/
theorem R_keepG {α : Type} {d : Kd α} {e base g t : Nat} {w w' : World} {v : Value} {xs : List α} {cs : Array Value} (h : d.R e w base (fun _ => True) v xs) (hg : w.heap[g]? = some (.cells cs t (0, 0))) (ht : ∀ q, q ∈ e :: d.E → q ≠ t) (hc : Ch w w' (fun k => k = g)) : d.R e w' base (fun _ => True) v xs :=
  Kd.R_mono (hc.R (Kd.R_types h hg ht) (fun _ hk => hk.2)) (fun _ _ => trivial)
theorem Rd.blk {w0 W : World} {g : Nat} {s : St} (h : Rd w0 W g s) : ∃ cs, W.heap[g]? = some (.cells cs 57 (0, 0)) := by
  obtain ⟨_, _, _, A, m, c, _, _, hb, _⟩ := h
  exact ⟨_, hb⟩
theorem Rd.cell {w0 W : World} {g : Nat} {s : St} (h : Rd w0 W g s) : W.cell? ⟨g, 1, none⟩ = some (.bool s.2) := by
  obtain ⟨_, _, _, A, m, c, _, _, hb, _⟩ := h
  exact blk_cell hb 1
theorem Rd.alloc {w0 W : World} {g : Nat} {s : St} (h : Rd w0 W g s) (o : Obj) : Rd w0 (W.alloc o) g s := h.later ((Ch.refl W (fun _ => False)).alloc o) (fun h => h) (fun _ h => h.elim)
def Rowed {α : Type} (d : Kd α) (e : Nat) (w0 : World) (g : Nat) (r : St × List α) (w : World) (en : Ending) (w' : World) : Prop :=
  ∃ A m c, en = .returned (.slice A m c) ∧ d.R e w' w.heap.size (fun _ => True) (.slice A m c) r.2 ∧ Rd w0 w' g r.1 ∧ Ch w w' (fun k => k = g)
theorem R_sl' {α : Type} {d : Kd α} {e : Nat} {w : World} {base : Nat} {ok : Nat → Prop} {v : Value} {xs : List α} (h : d.R e w base ok v xs) : ∃ A m c, v = .slice A m c := by
  obtain ⟨A, c, e⟩ := Kd.R_slice h
  exact ⟨A, _, c, e⟩
theorem rowP_len {α : Type} (one : St → St × α) : ∀ (n : Nat) (s : St), (rowP one n s).2.length ≤ n
  | 0, s => by simp [rowP]
  | n + 1, s => by
    unfold rowP
    split
    · simp
    · have := rowP_len one n (one s).1
      simp only [List.length_cons]
      omega
set_option maxHeartbeats 4000000 in
theorem rowI_calls (w0 W : World) (g : Nat) (s0 : St) (z : Int) (hz : z = 1 ∨ z = 2 ∨ z = 4) (h : Rd w0 W g s0) :
    Calls Try.prog 32 #[.pointer (some ⟨g, 0, none⟩), .int .i64 z, .func (.func 26) #[.pointer (some ⟨g, 0, none⟩)] #[]] W (Rowed I64 3 w0 g (rowsP wordP z s0) W) := by
  have K := Aside0.mk (gnum_calls w0 W g s0 z hz h)
  have hgt : w0.heap.size ≤ W.heap.size := h.bel.size
  have HGT := Aside0.mk hgt
  clear h hz hgt
  go_enter Try.func32, Try.ntmps32
  go_wp2_with (go_at_call 25; go_must (refine K.out.mono ?_; rintro e w1 ⟨rfl, h1, h2, h3, h4⟩; have H1 := Aside0.mk h1; have H2 := Aside0.mk h2; have H3 := Aside0.mk h3; have H4 := Aside0.mk h4; clear h1 h2 h3 h4))
  obtain ⟨F, hF⟩ : ∃ F, F = rowsP wordP z s0 := ⟨_, rfl⟩
  obtain ⟨n0, hn0⟩ : ∃ n0 : Nat, (n0 : Int) = (numP s0 z).2 := ⟨(numP s0 z).2.toNat, by have := H1.out; omega⟩
  have HF := Aside0.mk hF
  have HN := Aside0.mk hn0
  clear hF
  go_loopw [7, 8] (fun v u w' => ∃ (k : Nat) (s : St) (xs : List Int), u = .int .i64 k ∧ k < 4294967296 ∧ Aside0 (xs.length + k < 4294967296) ∧ Aside0 ((rowP wordP k s).1 = F.1 ∧ xs ++ (rowP wordP k s).2 = F.2) ∧ Aside0 (I64.R 3 w' W.heap.size (fun _ => True) v xs) ∧ Aside0 (Rd w0 w' g s) ∧ Aside0 (Ch W w' (fun k => k = g))) (fun _ u _ => (intOf u).toNat)
  case atStart =>
    refine ⟨n0, (numP s0 z).1, [], by rw [HN.out], by have := HN.out; have := H2.out; omega, ⟨by have := HN.out; have := H2.out; simp; omega⟩, ⟨?_⟩, ⟨Kd.R_nil _ _ _ _ _⟩, H3, H4⟩
    rw [HF.out]
    unfold rowsP
    rw [← HN.out]
    exact ⟨rfl, rfl⟩
  case round =>
    clear H1 H2 H3 H4 K hn0 HN
    obtain ⟨k, s, xs, rfl, hk32, HX, HP, HO, HRd, HC⟩ := hrel
    obtain ⟨A, m, c, rfl⟩ := R_sl' HO.out
    rcases k with _ | k
    · go_wp2_with fail
      go_ret
      have hp := HP.out
      simp only [rowP, List.append_nil] at hp
      exact ⟨A, m, c, rfl, by rw [← HF.out, ← hp.2]; exact HO.out, by rw [← HF.out, ← hp.1]; exact HRd.out, HC.out⟩
    · obtain ⟨b, hb⟩ : ∃ b, b = s.2 := ⟨_, rfl⟩
      have hcell : wr.cell? ⟨g, 1, none⟩ = some (.bool b) := by rw [hb]; exact HRd.out.cell
      have HB := Aside0.mk hb
      clear hb
      cases b with
      | true =>
        go_wp2_with fail
        go_ret
        have hp := HP.out
        rw [rowP, if_pos HB.out.symm] at hp
        simp only [List.append_nil] at hp
        exact ⟨A, m, c, rfl, by rw [← HF.out, ← hp.2]; exact HO.out, by rw [← HF.out, ← hp.1]; exact HRd.out, HC.out⟩
      | false =>
        have hp := HP.out
        rw [rowP, if_neg (by rw [← HB.out]; simp)] at hp
        have HP2 := Aside0.mk hp
        obtain ⟨x, hx⟩ : ∃ x, x = (wordP s).2 := ⟨_, rfl⟩
        have HXX := Aside0.mk hx
        clear hp HP hx
        go_wp2_with (first | (go_at_call 26; go_must (refine (gword_calls w0 _ g s HRd.out).mono ?_; rintro e w2 ⟨rfl, h1, h2, h3, h4⟩; have HS := Aside0.mk h3; obtain ⟨csg, hbg⟩ := HRd.out.blk; have HO2 := Aside0.mk (R_keepG HO.out hbg (by simp [Kd.int, Kd.scalar]) h4); have HC2 := Aside0.mk (HC.out.then_ h4 (fun _ h => .inl h)); clear h1 h2 h3 h4 hbg HC; rw [← HXX.out])) | ((with_reducible refine gate_builtin (b := .append) (xs := #[.tmp 23, .tmp 26]) rfl ?_); at_builtin; go_must (refine apI W.heap.size rfl (.tmp 23) (.tmp 26) rfl _ xs x rfl rfl HO2.out ?aB ?aL ?_; (case aB => exact HC2.out.size); (case aL => have := HX.out; omega); intro v1 w3 ho hc; obtain ⟨A1, m1, c1, rfl⟩ := R_sl' ho; have HO3 := Aside0.mk ho; have HC3 := Aside0.mk hc; clear ho hc)))
        go_roundw
        case rel =>
          have hp := HP2.out
          rw [← HXX.out] at hp
          obtain ⟨csg, hbg⟩ := HS.out.blk
          refine ⟨k, (wordP s).1, xs ++ [x], by go_num, by omega, ⟨by have := HX.out; simp; omega⟩, ⟨hp.1, by rw [List.append_assoc]; exact hp.2⟩, HO3, ⟨HS.out.later HC3.out (fun e => (Kd.R_ne HO2.out hbg (by decide)) e.symm) (fun k hk => Nat.le_trans HGT.out (Kd.R_base HO2.out k hk))⟩, ⟨HC2.out.then_ HC3.out (fun k hk => .inr (Kd.R_base HO2.out k hk))⟩⟩
        case measure => simp [intOf]
def Striped (w0 : World) (g : Nat) (r : St × S41) (w : World) (e : Ending) (w' : World) : Prop :=
  ∃ A m c, e = .returned (.agg #[.int .i64 r.2.f0, .int .i64 r.2.f1, .slice A m c]) ∧ I64.R 3 w' w.heap.size (fun _ => True) (.slice A m c) r.2.f2 ∧ Rd w0 w' g r.1 ∧ Ch w w' (fun k => k = g)
set_option maxHeartbeats 4000000 in
theorem gstripe_calls (w0 W : World) (g : Nat) (s : St) (h : Rd w0 W g s) : Calls Try.prog 29 #[.pointer (some ⟨g, 0, none⟩)] W (Striped w0 g (stripeP s) W) := by
  have hlt : W.heap.size < (W.alloc (.cells #[.int .i64 0, .int .i64 0, .slice none 0 0] 41)).heap.size := by simp
  have R0 := Aside0.mk (h.alloc (.cells #[.int .i64 0, .int .i64 0, .slice none 0 0] 41))
  have X0 := Aside0.mk (blk_new W (.cells #[.int .i64 0, .int .i64 0, .slice none 0 0] 41))
  have C0 := Aside0.mk ((Ch.refl W (fun k => k = g)).alloc (.cells #[.int .i64 0, .int .i64 0, .slice none 0 0] 41))
  have G0 : Aside0 (W.heap.size ≠ g) := ⟨by obtain ⟨cs, hb⟩ := h.blk; have := blk_lt hb; omega⟩
  have WS : Aside0 (w0.heap.size ≤ W.heap.size) := ⟨h.bel.size⟩
  clear h hlt
  go_enter Try.func29, Try.ntmps29
  go_wp2_with (first | (go_at_call 26; go_must (refine (gword_calls w0 _ g _ R0.out).mono ?_; rintro e w2 ⟨rfl, h1, h2, h3, h4⟩; replace R0 := Aside0.mk h3; replace X0 := Aside0.mk (h4.blk X0.out G0.out); replace C0 := Aside0.mk (C0.out.then_ h4 (fun _ h => .inl h)); clear h1 h2 h3 h4)) | (go_at_call 32; go_must (refine (rowI_calls w0 _ g _ 1 (.inl rfl) R0.out).mono ?_; rintro e w2 ⟨A, m, c, rfl, h1, h3, h4⟩; have HS := Aside0.mk C0.out.size; replace R0 := Aside0.mk h3; replace X0 := Aside0.mk (h4.blk X0.out G0.out); replace C0 := Aside0.mk (C0.out.then_ h4 (fun _ h => .inl h)); have HR := Aside0.mk h1; have x0 := blk_cell X0.out 0; have x1 := blk_cell X0.out 1; have x2 := blk_cell X0.out 2; have xf : ∀ i, w2.frozen? ⟨W.heap.size, i, none⟩ = false := (fun i => blk_frozen X0.out i); clear h1 h3 h4)))
  have CC := (((Ch.refl w2 (fun k => k = W.heap.size)).setCell (p := ⟨W.heap.size, 0, none⟩) (.inl rfl) (.int .i64 (wordP s).2)).setCell (p := ⟨W.heap.size, 1, none⟩) (.inl rfl) (.int .i64 (wordP (wordP s).1).2)).setCell (p := ⟨W.heap.size, 2, none⟩) (.inl rfl) (.slice A m c)
  refine bodyPost_ret (v := .agg #[.int .i64 (wordP s).2, .int .i64 (wordP (wordP s).1).2, .slice A m c]) (by simp [results, Try.results29, go_sem, x0, x1, x2]) rfl ⟨A, m, c, rfl, ?_, ?_, ?_⟩
  · exact Kd.R_lower (R_keepG HR.out X0.out (by simp [Kd.int, Kd.scalar]) CC) HS.out
  · exact R0.out.later CC (fun e => G0.out e.symm) (fun k hk => by rw [hk]; exact WS.out)
  · exact C0.out.then_ CC (fun k hk => .inr (by rw [hk]; exact Nat.le_refl _))
-- the rest of this text was printed by genJ.py
set_option maxHeartbeats 4000000 in
theorem rowT_calls (w0 W : World) (g : Nat) (s0 : St) (z : Int) (hz : z = 1 ∨ z = 2 ∨ z = 4) (h : Rd w0 W g s0) :
    Calls Try.prog 28 #[.pointer (some ⟨g, 0, none⟩), .int .i64 z, .func (.func 29) #[.pointer (some ⟨g, 0, none⟩)] #[]] W (Rowed k41 41 w0 g (rowsP stripeP z s0) W) := by
  have K := Aside0.mk (gnum_calls w0 W g s0 z hz h)
  have hgt : w0.heap.size ≤ W.heap.size := h.bel.size
  have HGT := Aside0.mk hgt
  clear h hz hgt
  go_enter Try.func28, Try.ntmps28
  go_wp2_with (go_at_call 25; go_must (refine K.out.mono ?_; rintro e w1 ⟨rfl, h1, h2, h3, h4⟩; have H1 := Aside0.mk h1; have H2 := Aside0.mk h2; have H3 := Aside0.mk h3; have H4 := Aside0.mk h4; clear h1 h2 h3 h4))
  obtain ⟨F, hF⟩ : ∃ F, F = rowsP stripeP z s0 := ⟨_, rfl⟩
  obtain ⟨n0, hn0⟩ : ∃ n0 : Nat, (n0 : Int) = (numP s0 z).2 := ⟨(numP s0 z).2.toNat, by have := H1.out; omega⟩
  have HF := Aside0.mk hF
  have HN := Aside0.mk hn0
  clear hF
  go_loopw [7, 8] (fun v u w' => ∃ (k : Nat) (s : St) (xs : List S41), u = .int .i64 k ∧ k < 4294967296 ∧ Aside0 (xs.length + k < 4294967296) ∧ Aside0 ((rowP stripeP k s).1 = F.1 ∧ xs ++ (rowP stripeP k s).2 = F.2) ∧ Aside0 (k41.R 41 w' W.heap.size (fun _ => True) v xs) ∧ Aside0 (Rd w0 w' g s) ∧ Aside0 (Ch W w' (fun k => k = g))) (fun _ u _ => (intOf u).toNat)
  case atStart =>
    refine ⟨n0, (numP s0 z).1, [], by rw [HN.out], by have := HN.out; have := H2.out; omega, ⟨by have := HN.out; have := H2.out; simp; omega⟩, ⟨?_⟩, ⟨Kd.R_nil _ _ _ _ _⟩, H3, H4⟩
    rw [HF.out]
    unfold rowsP
    rw [← HN.out]
    exact ⟨rfl, rfl⟩
  case round =>
    clear H1 H2 H3 H4 K hn0 HN
    obtain ⟨k, s, xs, rfl, hk32, HX, HP, HO, HRd, HC⟩ := hrel
    obtain ⟨A, m, c, rfl⟩ := R_sl' HO.out
    rcases k with _ | k
    · go_wp2_with fail
      go_ret
      have hp := HP.out
      simp only [rowP, List.append_nil] at hp
      exact ⟨A, m, c, rfl, by rw [← HF.out, ← hp.2]; exact HO.out, by rw [← HF.out, ← hp.1]; exact HRd.out, HC.out⟩
    · obtain ⟨b, hb⟩ : ∃ b, b = s.2 := ⟨_, rfl⟩
      have hcell : wr.cell? ⟨g, 1, none⟩ = some (.bool b) := by rw [hb]; exact HRd.out.cell
      have HB := Aside0.mk hb
      clear hb
      cases b with
      | true =>
        go_wp2_with fail
        go_ret
        have hp := HP.out
        rw [rowP, if_pos HB.out.symm] at hp
        simp only [List.append_nil] at hp
        exact ⟨A, m, c, rfl, by rw [← HF.out, ← hp.2]; exact HO.out, by rw [← HF.out, ← hp.1]; exact HRd.out, HC.out⟩
      | false =>
        have hp := HP.out
        rw [rowP, if_neg (by rw [← HB.out]; simp)] at hp
        have HP2 := Aside0.mk hp
        obtain ⟨x, hx⟩ : ∃ x, x = (stripeP s).2 := ⟨_, rfl⟩
        have HXX := Aside0.mk hx
        clear hp HP hx
        go_wp2_with (first | (go_at_call 29; go_must (refine (gstripe_calls w0 _ g s HRd.out).mono ?_; rintro e w2 ⟨A2, m2, c2, rfl, h2, h3, h4⟩; have HS := Aside0.mk h3; obtain ⟨csg, hbg⟩ := HRd.out.blk; have HO2 := Aside0.mk (R_keepG HO.out hbg (by simp [k41, Kd.iso, Kd.pair, Kd.slice, Kd.int, Kd.scalar]) h4); have HC2 := Aside0.mk (HC.out.then_ h4 (fun _ h => .inl h)); have HSZ := Aside0.mk HC.out.size; have HM := Aside0.mk (k41_mkM w2 W.heap.size (fun k => wr.heap.size ≤ k) (stripeP s).2 (Kd.R_mono (Kd.R_lower (Kd.R_bound h2) HSZ.out) (fun _ hk => hk.2.1))); have HLT := Aside0.mk (fun k => Kd.R_lt HO.out k); clear h2 h3 h4 hbg HC; rw [← HXX.out] at HM; rw [← HXX.out])) | ((with_reducible refine gate_builtin (b := .append) (xs := #[.tmp 23, .tmp 26]) rfl ?_); at_builtin; go_must (refine apT W.heap.size rfl (.tmp 23) (.tmp 26) rfl _ xs x _ _ _ wr.heap.size rfl rfl HM.out HLT.out HO2.out ?aB ?aL ?_; (case aB => exact HC2.out.size); (case aL => have := HX.out; omega); intro v1 w3 ho hc; obtain ⟨A1, m1, c1, rfl⟩ := R_sl' ho; have HO3 := Aside0.mk ho; have HC3 := Aside0.mk hc; clear ho hc)))
        go_roundw
        case rel =>
          have hp := HP2.out
          rw [← HXX.out] at hp
          obtain ⟨csg, hbg⟩ := HS.out.blk
          refine ⟨k, (stripeP s).1, xs ++ [x], by go_num, by omega, ⟨by have := HX.out; simp; omega⟩, ⟨hp.1, by rw [List.append_assoc]; exact hp.2⟩, HO3, ⟨HS.out.later HC3.out (fun e => (Kd.R_ne HO2.out hbg (by decide)) e.symm) (fun k hk => Nat.le_trans HGT.out (Kd.R_base HO2.out k hk))⟩, ⟨HC2.out.then_ HC3.out (fun k hk => .inr (Kd.R_base HO2.out k hk))⟩⟩
        case measure => simp [intOf]
def Objected (w0 : World) (g : Nat) (r : St × S44) (w : World) (e : Ending) (w' : World) : Prop :=
  ∃ A m c, e = .returned (.agg #[.string r.2.f0, .int .i64 r.2.f1, .int .i64 r.2.f2, .slice A m c]) ∧ k41.R 41 w' w.heap.size (fun _ => True) (.slice A m c) r.2.f3 ∧ Rd w0 w' g r.1 ∧ Ch w w' (fun k => k = g)
set_option maxHeartbeats 4000000 in
theorem gobject_calls (w0 W : World) (g : Nat) (s : St) (h : Rd w0 W g s) : Calls Try.prog 31 #[.pointer (some ⟨g, 0, none⟩)] W (Objected w0 g (objectP s) W) := by
  have R0 := Aside0.mk (h.alloc (.cells #[.string ⟨#[]⟩, .int .i64 0, .int .i64 0, .slice none 0 0] 44))
  have X0 := Aside0.mk (blk_new W (.cells #[.string ⟨#[]⟩, .int .i64 0, .int .i64 0, .slice none 0 0] 44))
  have C0 := Aside0.mk ((Ch.refl W (fun k => k = g)).alloc (.cells #[.string ⟨#[]⟩, .int .i64 0, .int .i64 0, .slice none 0 0] 44))
  have G0 : Aside0 (W.heap.size ≠ g) := ⟨by obtain ⟨cs, hb⟩ := h.blk; have := blk_lt hb; omega⟩
  have WS : Aside0 (w0.heap.size ≤ W.heap.size) := ⟨h.bel.size⟩
  clear h
  go_enter Try.func31, Try.ntmps31
  go_wp2_with (first | (go_at_call 27; go_must (refine (gkey_calls w0 _ g _ R0.out).mono ?_; rintro e w2 ⟨rfl, h3, h4⟩; replace R0 := Aside0.mk h3; replace X0 := Aside0.mk (h4.blk X0.out G0.out); replace C0 := Aside0.mk (C0.out.then_ h4 (fun _ h => .inl h)); clear h3 h4)) | (go_at_call 26; go_must (refine (gword_calls w0 _ g _ R0.out).mono ?_; rintro e w2 ⟨rfl, h1, h2, h3, h4⟩; replace R0 := Aside0.mk h3; replace X0 := Aside0.mk (h4.blk X0.out G0.out); replace C0 := Aside0.mk (C0.out.then_ h4 (fun _ h => .inl h)); clear h1 h2 h3 h4)) | (go_at_call 28; go_must (refine (rowT_calls w0 _ g _ 1 (.inl rfl) R0.out).mono ?_; rintro e w2 ⟨A, m, c, rfl, h1, h3, h4⟩; have HS := Aside0.mk C0.out.size; replace R0 := Aside0.mk h3; replace X0 := Aside0.mk (h4.blk X0.out G0.out); replace C0 := Aside0.mk (C0.out.then_ h4 (fun _ h => .inl h)); have HR := Aside0.mk h1; have x0 := blk_cell X0.out 0; have x1 := blk_cell X0.out 1; have x2 := blk_cell X0.out 2; have x3 := blk_cell X0.out 3; have xf : ∀ i, w2.frozen? ⟨W.heap.size, i, none⟩ = false := (fun i => blk_frozen X0.out i); clear h1 h3 h4)))
  have CC := ((((Ch.refl w2 (fun k => k = W.heap.size)).setCell (p := ⟨W.heap.size, 0, none⟩) (.inl rfl) (.string (keyP s).2)).setCell (p := ⟨W.heap.size, 1, none⟩) (.inl rfl) (.int .i64 (wordP (keyP s).1).2)).setCell (p := ⟨W.heap.size, 2, none⟩) (.inl rfl) (.int .i64 (wordP (wordP (keyP s).1).1).2)).setCell (p := ⟨W.heap.size, 3, none⟩) (.inl rfl) (.slice A m c)
  refine bodyPost_ret (v := .agg #[.string (keyP s).2, .int .i64 (wordP (keyP s).1).2, .int .i64 (wordP (wordP (keyP s).1).1).2, .slice A m c]) (by simp [results, Try.results31, go_sem, x0, x1, x2, x3]) rfl ⟨A, m, c, rfl, ?_, ?_, ?_⟩
  · exact Kd.R_lower (R_keepG HR.out X0.out (by simp [k41, Kd.iso, Kd.pair, Kd.slice, Kd.int, Kd.scalar]) CC) HS.out
  · exact R0.out.later CC (fun e => G0.out e.symm) (fun k hk => by rw [hk]; exact WS.out)
  · exact C0.out.then_ CC (fun k hk => .inr (by rw [hk]; exact Nat.le_refl _))
set_option maxHeartbeats 4000000 in
theorem rowU_calls (w0 W : World) (g : Nat) (s0 : St) (z : Int) (hz : z = 1 ∨ z = 2 ∨ z = 4) (h : Rd w0 W g s0) :
    Calls Try.prog 30 #[.pointer (some ⟨g, 0, none⟩), .int .i64 z, .func (.func 31) #[.pointer (some ⟨g, 0, none⟩)] #[]] W (Rowed k44 44 w0 g (rowsP objectP z s0) W) := by
  have K := Aside0.mk (gnum_calls w0 W g s0 z hz h)
  have hgt : w0.heap.size ≤ W.heap.size := h.bel.size
  have HGT := Aside0.mk hgt
  clear h hz hgt
  go_enter Try.func30, Try.ntmps30
  go_wp2_with (go_at_call 25; go_must (refine K.out.mono ?_; rintro e w1 ⟨rfl, h1, h2, h3, h4⟩; have H1 := Aside0.mk h1; have H2 := Aside0.mk h2; have H3 := Aside0.mk h3; have H4 := Aside0.mk h4; clear h1 h2 h3 h4))
  obtain ⟨F, hF⟩ : ∃ F, F = rowsP objectP z s0 := ⟨_, rfl⟩
  obtain ⟨n0, hn0⟩ : ∃ n0 : Nat, (n0 : Int) = (numP s0 z).2 := ⟨(numP s0 z).2.toNat, by have := H1.out; omega⟩
  have HF := Aside0.mk hF
  have HN := Aside0.mk hn0
  clear hF
  go_loopw [7, 8] (fun v u w' => ∃ (k : Nat) (s : St) (xs : List S44), u = .int .i64 k ∧ k < 4294967296 ∧ Aside0 (xs.length + k < 4294967296) ∧ Aside0 ((rowP objectP k s).1 = F.1 ∧ xs ++ (rowP objectP k s).2 = F.2) ∧ Aside0 (k44.R 44 w' W.heap.size (fun _ => True) v xs) ∧ Aside0 (Rd w0 w' g s) ∧ Aside0 (Ch W w' (fun k => k = g))) (fun _ u _ => (intOf u).toNat)
  case atStart =>
    refine ⟨n0, (numP s0 z).1, [], by rw [HN.out], by have := HN.out; have := H2.out; omega, ⟨by have := HN.out; have := H2.out; simp; omega⟩, ⟨?_⟩, ⟨Kd.R_nil _ _ _ _ _⟩, H3, H4⟩
    rw [HF.out]
    unfold rowsP
    rw [← HN.out]
    exact ⟨rfl, rfl⟩
  case round =>
    clear H1 H2 H3 H4 K hn0 HN
    obtain ⟨k, s, xs, rfl, hk32, HX, HP, HO, HRd, HC⟩ := hrel
    obtain ⟨A, m, c, rfl⟩ := R_sl' HO.out
    rcases k with _ | k
    · go_wp2_with fail
      go_ret
      have hp := HP.out
      simp only [rowP, List.append_nil] at hp
      exact ⟨A, m, c, rfl, by rw [← HF.out, ← hp.2]; exact HO.out, by rw [← HF.out, ← hp.1]; exact HRd.out, HC.out⟩
    · obtain ⟨b, hb⟩ : ∃ b, b = s.2 := ⟨_, rfl⟩
      have hcell : wr.cell? ⟨g, 1, none⟩ = some (.bool b) := by rw [hb]; exact HRd.out.cell
      have HB := Aside0.mk hb
      clear hb
      cases b with
      | true =>
        go_wp2_with fail
        go_ret
        have hp := HP.out
        rw [rowP, if_pos HB.out.symm] at hp
        simp only [List.append_nil] at hp
        exact ⟨A, m, c, rfl, by rw [← HF.out, ← hp.2]; exact HO.out, by rw [← HF.out, ← hp.1]; exact HRd.out, HC.out⟩
      | false =>
        have hp := HP.out
        rw [rowP, if_neg (by rw [← HB.out]; simp)] at hp
        have HP2 := Aside0.mk hp
        obtain ⟨x, hx⟩ : ∃ x, x = (objectP s).2 := ⟨_, rfl⟩
        have HXX := Aside0.mk hx
        clear hp HP hx
        go_wp2_with (first | (go_at_call 31; go_must (refine (gobject_calls w0 _ g s HRd.out).mono ?_; rintro e w2 ⟨A2, m2, c2, rfl, h2, h3, h4⟩; have HS := Aside0.mk h3; obtain ⟨csg, hbg⟩ := HRd.out.blk; have HO2 := Aside0.mk (R_keepG HO.out hbg (by simp [k44, Kd.iso, Kd.pair, Kd.slice, Kd.int, Kd.scalar, k41, Kd.string]) h4); have HC2 := Aside0.mk (HC.out.then_ h4 (fun _ h => .inl h)); have HSZ := Aside0.mk HC.out.size; have HM := Aside0.mk (k44_mkM w2 W.heap.size (fun k => wr.heap.size ≤ k) (objectP s).2 (Kd.R_mono (Kd.R_lower (Kd.R_bound h2) HSZ.out) (fun _ hk => hk.2.1))); have HLT := Aside0.mk (fun k => Kd.R_lt HO.out k); clear h2 h3 h4 hbg HC; rw [← HXX.out] at HM; rw [← HXX.out])) | ((with_reducible refine gate_builtin (b := .append) (xs := #[.tmp 23, .tmp 26]) rfl ?_); at_builtin; go_must (refine apU W.heap.size rfl (.tmp 23) (.tmp 26) rfl _ xs x _ _ _ _ wr.heap.size rfl rfl HM.out HLT.out HO2.out ?aB ?aL ?_; (case aB => exact HC2.out.size); (case aL => have := HX.out; omega); intro v1 w3 ho hc; obtain ⟨A1, m1, c1, rfl⟩ := R_sl' ho; have HO3 := Aside0.mk ho; have HC3 := Aside0.mk hc; clear ho hc)))
        go_roundw
        case rel =>
          have hp := HP2.out
          rw [← HXX.out] at hp
          obtain ⟨csg, hbg⟩ := HS.out.blk
          refine ⟨k, (objectP s).1, xs ++ [x], by go_num, by omega, ⟨by have := HX.out; simp; omega⟩, ⟨hp.1, by rw [List.append_assoc]; exact hp.2⟩, HO3, ⟨HS.out.later HC3.out (fun e => (Kd.R_ne HO2.out hbg (by decide)) e.symm) (fun k hk => Nat.le_trans HGT.out (Kd.R_base HO2.out k hk))⟩, ⟨HC2.out.then_ HC3.out (fun k hk => .inr (Kd.R_base HO2.out k hk))⟩⟩
        case measure => simp [intOf]
end Go.Proofs.Ytcpekifbbjnjmaa
