/- LinearOrder. -/
import Derived.Test.YtjlmhppifjoijaaU
set_option linter.unusedVariables false
namespace Go.Proofs.Ytjlmhppifjoijaa
open Go.RowKit Go.Proofs.YtjlmhppifjoijaaW.PrintWords Go.Proofs.YtjlmhppifjoijaaW.PrintLast Go.Proofs.YtjlmhppifjoijaaW.PrintMore
section
variable {ops : Array Oper} {rest : List Oper} {o : Oper} {a : Act} {Q : Exit → Act → World → Prop}
theorem apC2 {W : World} (base : Nat) (ok : Nat → Prop) (hgd : o.guard = none) (s x : Operand) (ho : o.op = .call { callee := .builtin .append, args := #[s, x], argTypes := #[24, 24] })
    (v : Value) (xs : List Cl) (p : Cl) (hs : a.eval s = v) (B : Nat) (hx : a.eval x = .slice (some ⟨B, 0, none⟩) 1 1) (hB : B = W.heap.size)
    (HO : kCl.R 29 W base ok v xs) (hfresh : ∀ k, W.heap.size ≤ k → ok k) (hbase : base ≤ W.heap.size) (hl : (xs.length + 1) * 136 ≤ 140737488355328)
    (h : ∀ v1 w1, kCl.R 29 w1 base ok v1 (xs ++ [p]) → Ch W w1 (fun k => v.ownBlock = some k) → wpList Try.prog ops Q rest (a.put o.dst v1) w1) :
    wpList Try.prog ops Q (o :: rest) a (W.alloc (.cells p.cells.toArray 29)) := by
  subst hB
  exact apO kCl base hgd s x 24 29 zero29 136 ho Try.underlying24 inf29 rfl (by decide) (by omega) v xs p p.cells ok (fun _ => False) hs hx rfl (fun _ hk => hk.elim) hfresh HO hbase hl fun v1 w1 hr hc _ => h v1 w1 hr hc
end
section
variable {ops : Array Oper} {rest : List Oper} {o : Oper} {a : Act} {Q : Exit → Act → World → Prop} {Kc : Act → World → Prop}
theorem wanted_none {y : Tmp → Option Bool} (h : o.guard = none) : Region.wanted o y = true := by
  unfold Region.wanted
  rw [h]
/-- append(v, ys...) in a region that draws its order. -/
theorem apCstep {W : World} (base : Nat) (hw : Region.wanted o (yielded ops a.tmps) = true) (s x : Operand)
    (ho : o.op = .call { callee := .builtin .append, args := #[s, x], argTypes := #[24, 24] })
    (v : Value) (xs ys : List Cl) (A : Option Addr) (m c : Nat) (ok : Nat → Prop) (hs : a.eval s = v) (hx : a.eval x = .slice A m c)
    (HO : kCl.R 29 W base ok v xs) (HR : kCl.C W A m ys) (hfresh : ∀ k, W.heap.size ≤ k → ok k)
    (hbase : base ≤ W.heap.size) (hl : (xs.length + m) * 136 ≤ 140737488355328)
    (h : ∀ v1 w1, kCl.R 29 w1 base ok v1 (xs ++ ys) → Ch W w1 (fun k => v.ownBlock = some k) → Kc (a.put o.dst v1) w1) :
    if Region.wanted o (yielded ops a.tmps) = true then Oper.wp Try.prog o a W Kc Q else Kc (a.put o.dst undef) W :=
  Kd.R_append_rows_step kCl (w0 := W) base hw s x 24 29 zero29 136 ho Try.underlying24 inf29 rfl (by decide) (by omega) v xs ys A m c ok (fun _ => False) hs hx HO HR (fun _ _ h => h) (fun _ hk => hk.elim) hfresh (Below.refl _ _) hbase hl fun v1 w1 hr _ hg hat => h v1 w1 hr (Ch.of_grown hg)
end
theorem cell_lt {w : World} {a : Addr} {v : Value} (h : w.cell? a = some v) : a.block < w.heap.size := by
  rcases Nat.lt_or_ge a.block w.heap.size with h' | h'
  · exact h'
  · simp [World.cell?, Array.getElem?_eq_none h'] at h
theorem cell_keep {w W : World} {a : Addr} {v : Value} (b : Below w.heap.size w W) (h : w.cell? a = some v) : W.cell? a = some v := (b.cell (cell_lt h)).trans h
theorem wp_gen {P : Program} {c : Code} {Q : Exit → Act → World → Prop} {a : Act} {w : World} (S : World → Prop) (hS : S w) (h : ∀ W, S W → c.wp P Q a W) : c.wp P Q a w := h w hS
/-- '[]byte(v)', for the walk. -/
theorem step_bytes {ops : Array Oper} {rest : List Oper} {o : Oper} {a : Act} {Q : Exit → Act → World → Prop} {w : World}
    (hg : o.guard = none) (x : Operand) (hop : o.op = Op.convert 9 22 x) (v : ByteArray) (hx : a.eval x = .string v) (hv : v.size ≤ 1000)
    (hK : ∀ w' g c, Ch w w' (fun _ => False) → Dt w' ⟨some ⟨g, 0, none⟩, v.size, c, numsB v⟩ → wpList Try.prog ops Q rest (a.put o.dst (.slice (some ⟨g, 0, none⟩) v.size c)) w') :
    wpList Try.prog ops Q (o :: rest) a w := by
  refine wpList_plain hg fun K' hK' => ?_
  have h := bytes_conv w v
  unfold Oper.wp
  simp [execOp, hop, hx, h, Result.andThen]
  exact hK' _ _ (hK _ w.heap.size _ (((Ch.refl w (fun _ => False)).drew).alloc _) (Dt.made w.drew v _ _ (grownCap_ge _ _ _ _) hv))
theorem put_all {w : World} {p : Nat} {cs0 : Array Value} (h : w.heap[p]? = some (.cells cs0 29 (0, 0))) (hs : cs0.size = 10) (y : Cl) : (w.setCells p 0 y.cells).heap[p]? = some (.cells y.cells.toArray 29) := by
  obtain ⟨cur', h3, h4, h5⟩ := setCells_row y.cells 0 w cs0 h (by rw [cl_len, hs]; omega)
  have e : cur' = y.cells.toArray := by
    apply Array.ext'
    rw [h5, List.take_zero, List.nil_append, List.drop_of_length_le (by rw [cl_len, Array.length_toList, hs]; omega), List.append_nil]
  rw [h3, e]
theorem put_e {w : World} {p : Nat} (y : Cl) (h : w.heap[p]? = some (.cells y.cells.toArray 29 (0, 0))) (e : Int) : (w.setCell ⟨p, 7, none⟩ (.int .i64 e)).heap[p]? = some (.cells ({ y with e := e } : Cl).cells.toArray 29) := by
  obtain ⟨cur', h3, h4, h5⟩ := setCells_row [.int .i64 e] 7 w _ h (by show 7 + 1 ≤ 10; omega)
  have e : cur' = ({ y with e := e } : Cl).cells.toArray := by
    apply Array.ext'
    rw [h5]
    rfl
  rw [← e]
  exact h3
theorem cells10 {w : World} {p : Nat} (y : Cl) (hb : w.heap[p]? = some (.cells y.cells.toArray 29 (0, 0))) : w.cell? ⟨p, 0, none⟩ = some (.int .i64 y.task) ∧ w.cell? ⟨p, 1, none⟩ = some (.int .i64 y.op) ∧ w.cell? ⟨p, 2, none⟩ = some (.string y.key) ∧ w.cell? ⟨p, 3, none⟩ = some (.slice y.data.A y.data.n y.data.c) ∧ w.cell? ⟨p, 4, none⟩ = some (.int .i64 y.fr) ∧ w.cell? ⟨p, 5, none⟩ = some (.int .i64 y.til) ∧ w.cell? ⟨p, 6, none⟩ = some (.int .i64 y.at_) ∧ w.cell? ⟨p, 7, none⟩ = some (.int .i64 y.e) ∧ w.cell? ⟨p, 8, none⟩ = some (.slice y.out.A y.out.n y.out.c) ∧ w.cell? ⟨p, 9, none⟩ = some (.slice y.keys.A y.keys.n y.keys.c) ∧ ∀ i, w.frozen? ⟨p, i, none⟩ = false :=
  ⟨cell_any hb rfl, cell_any hb rfl, cell_any hb rfl, cell_any hb rfl, cell_any hb rfl, cell_any hb rfl, cell_any hb rfl, cell_any hb rfl, cell_any hb rfl, cell_any hb rfl, fun i => blk_frozen (w := w) hb i⟩
theorem kept_row {w : World} {g : Nat} (h : ∃ cells, w.heap[g]? = some (.cells cells 29 (0, 0))) : ∀ cs f, w.heap[g]? ≠ some (.cells cs 5 f) := by
  obtain ⟨c, hc⟩ := h
  intro cs f e
  rw [hc] at e
  cases e
theorem addr_addS2 (a : Addr) (m k : Nat) : (a.add m).add k = a.add (m + k) := by
  unfold Addr.add
  by_cases h1 : m = 0 <;> by_cases h2 : k = 0 <;> simp [h1, h2, Nat.add_assoc]
theorem C_part {w : World} {g n : Nat} {xs : List Cl} (h : kCl.C w (some ⟨g, 0, none⟩) n xs) (a k : Nat) (hk : a + k ≤ n) : kCl.C w (some ⟨g, a * 10, none⟩) k ((xs.drop a).take k) := by
  have hl := h.1
  refine ⟨by rw [List.length_take, List.length_drop]; omega, by have := h.2.1; omega, fun _ => ⟨_, rfl, fun j p hp => ?_⟩⟩
  have hj : j < k := by
    have := (List.getElem?_eq_some_iff.1 hp).1
    rw [List.length_take] at this
    omega
  rw [List.getElem?_take_of_lt hj, List.getElem?_drop] at hp
  refine ⟨p.cells, rfl, rfl, fun i u hu => ?_⟩
  have := clC_at h (a + j) p hp i u hu
  have e : (⟨g, a * 10, none⟩ : Addr).add (j * kCl.sz + i) = ⟨g, (a + j) * 10 + i, none⟩ := by
    have e1 : (⟨g, a * 10, none⟩ : Addr) = (⟨g, 0, none⟩ : Addr).add (a * 10) := (add_plain _ _).symm
    rw [e1, addr_addS2, add_plain]
    congr 1
    show a * 10 + (j * 10 + i) = (a + j) * 10 + i
    omega
  rw [e]
  exact this
theorem R_slp {d : Kd Cl} {e : Nat} {w : World} {base : Nat} {ok : Nat → Prop} {v : Value} {xs : List Cl} (h : d.R e w base ok v xs) (hx : xs ≠ []) : ∃ g c, v = .slice (some ⟨g, 0, none⟩) xs.length c := by
  obtain ⟨A, c, rfl⟩ := Kd.R_slice h
  rcases R_plain0 h with ⟨_, h0, _⟩ | ⟨g, rfl⟩
  · exact absurd (List.length_eq_zero_iff.1 h0) hx
  · exact ⟨g, c, rfl⟩
theorem Fit1.keep {w W : World} {x : Cl} (h : Fit1 w x) (c : Ch w W (fun _ => False)) : Fit1 W x := ⟨h.1, h.2.1, h.2.2.1, h.2.2.2.1.Ch c, h.2.2.2.2.Ch c⟩
theorem round_perm (cs : List Cl) (m t : Nat) (hm : cs.length = m) : (([] ++ (cs.drop t).take (m - t)) ++ (cs.drop 0).take t).Perm cs := by
  rw [List.nil_append, List.drop_zero, List.take_of_length_le (by rw [List.length_drop]; omega)]
  exact List.perm_append_comm.trans (by rw [List.take_append_drop])
/-- Where the loop stands: k calls made, the list v, the map bm. -/
structure Here (w wr : World) (bm k : Nat) (v : Value) (cs : List Cl) (last : Last) : Prop where
  row : kCl.R 29 wr w.heap.size (fun j => w.heap.size ≤ j ∧ j ≠ bm) v cs
  ch : Ch w wr (fun _ => False)
  lt : w.heap.size ≤ bm ∧ bm < wr.heap.size
  map : MapS wr bm k last
  len : cs.length = k
  good : Good cs last
  fit : ∀ x, x ∈ cs → (x.op = 1 ∨ x.op = 2) ∧ (x.e = 0 ∨ x.e = 7) ∧ x.key.size ≤ maxLen ∧ Dt wr x.data ∧ Dt wr x.out ∧ x.task = 0
  str : ∀ q u, last q = some u → u.size = 1
abbrev FitD (w : World) (x : Cl) : Prop := (x.op = 1 ∨ x.op = 2) ∧ (x.e = 0 ∨ x.e = 7) ∧ x.key.size ≤ maxLen ∧ Dt w x.data ∧ Dt w x.out ∧ x.task = 0
theorem FitD.keep {w W : World} {x : Cl} {S : Nat → Prop} (h : FitD w x) (c : Ch w W S) (hS : ∀ g cs f, S g → w.heap[g]? ≠ some (.cells cs 5 f)) : FitD W x := by
  obtain ⟨h1, h2, h3, h4, h5, h6⟩ := h
  exact ⟨h1, h2, h3, h4.keep c hS, h5.keep c hS, h6⟩
theorem MapS.other {w : World} {b n : Nat} {f : Last} (h : MapS w b n f) : ∀ g cs f', g = b → w.heap[g]? ≠ some (.cells cs 5 f') := by
  obtain ⟨es, cl, hb⟩ := h.isMap
  intro g cs f' e hg
  subst e
  rw [hb] at hg
  cases hg
theorem here_step {w W3 w4 : World} {bm k : Nat} {v v1 : Value} {cs : List Cl} {last' : Last} {x : Cl} (hr : kCl.R 29 W3 w.heap.size (fun j => w.heap.size ≤ j ∧ j ≠ bm) v cs) (hch : Ch w W3 (fun _ => False)) (hlt : w.heap.size ≤ bm ∧ bm < W3.heap.size) (hm : MapS W3 bm (k + 1) last') (hl : cs.length = k)
    (hf : ∀ y, y ∈ cs → FitD W3 y) (hx : FitD W3 x) (hg : Good (cs ++ [x]) last') (hs : ∀ q u, last' q = some u → u.size = 1)
    (hr1 : kCl.R 29 w4 w.heap.size (fun j => w.heap.size ≤ j ∧ j ≠ bm) v1 (cs ++ [x])) (hc : Ch W3 w4 (fun j => v.ownBlock = some j)) : Here w w4 bm (k + 1) v1 (cs ++ [x]) last' := by
  have hk : ∀ g cs' f, v.ownBlock = some g → W3.heap[g]? ≠ some (.cells cs' 5 f) := fun g cs' f h => kept_row (Kd.R_typed hr g h) cs' f
  refine ⟨hr1, hch.then_ hc (fun j hj => Or.inr (R_okv hr j hj).1), ⟨hlt.1, Nat.lt_of_lt_of_le hlt.2 hc.size⟩, hm.Ch hc (fun h => (R_okv hr bm h).2 rfl), by simp [hl], hg, fun y hy => ?_, hs⟩
  rcases List.mem_append.1 hy with h | h
  · exact (hf y h).keep hc hk
  · obtain rfl : y = x := by simpa using h
    exact hx.keep hc hk
set_option maxRecDepth 100000 in
set_option maxHeartbeats 8000000 in
theorem order_calls (A : Option Addr) (n c : Nat) (ks : List Int) (z q : Int) (w : World) (hk : Rd w ⟨A, n, c, ks⟩) (bk : ∀ x ∈ ks, 0 ≤ x ∧ x < 256) (hz0 : 0 ≤ z) (hz1 : z < 256) (hq0 : 0 ≤ q) (hq1 : q < 256) :
    Calls Try.prog 3 #[.slice A n c, .int .u8 z, .int .u8 q] w fun e w' => e = .returned (.bool true) ∧ Ch w w' (fun _ => False) := by
  have HKr := Aside0.mk hk
  have hnl : n = ks.length := hk.1
  have HNL := Aside0.mk hnl
  clear hk hnl
  by_cases h0 : n = 0
  · subst h0
    go_enter Try.func3, Try.ntmps3
    go_wp2_with (go_at_call 6; go_must (refine (answers_calls w).mono ?_; rintro e w1 ⟨rfl, c1⟩; have C1 := Aside0.mk c1; clear c1))
    go_ret
    exact ⟨rfl, C1.out⟩
  · have hd0 : ((n : Int) == 0) = false := beq_eq_false_iff_ne.mpr (by omega)
    by_cases h20 : 20 < n
    · have hd : decide ((20 : Int) < (n : Int)) = true := decide_eq_true (by omega)
      go_enter Try.func3, Try.ntmps3
      go_wp2_with (go_at_call 6; go_must (refine (answers_calls w).mono ?_; rintro e w1 ⟨rfl, c1⟩; have C1 := Aside0.mk c1; clear c1))
      go_ret
      exact ⟨rfl, C1.out⟩
    · have hd : decide ((20 : Int) < (n : Int)) = false := decide_eq_false (by omega)
      have hmm := @run_makeMap Try.prog
      go_enter Try.func3, Try.ntmps3
      go_wp2_with fail
      have H0 := Aside0.mk (show Here w (w.alloc (.map #[] 0)) w.heap.size 0 (.slice none 0 0) [] (fun _ => none) from
        ⟨Kd.R_nil _ _ _ _ _, (Ch.refl _ _).alloc _, ⟨Nat.le_refl _, by simp⟩, MapS.made w, rfl, good_nil, (fun x hx => by cases hx), (fun q u h => by cases h)⟩)
      obtain ⟨bm, hbm⟩ : ∃ bm, bm = w.heap.size := ⟨_, rfl⟩
      have H1 : Aside0 (Here w (w.alloc (.map #[] 0)) bm 0 (.slice none 0 0) [] (fun _ => none)) := by rw [hbm]; exact H0
      rw [← hbm]
      clear hbm H0
      go_loopw [7, 9] (fun v i wr => ∃ (k : Nat) (A' : Option Addr) (m c' : Nat) (cs : List Cl) (last : Last), v = .slice A' m c' ∧ i = .int .i64 k ∧ Aside0 (k ≤ n) ∧ Aside0 (Here w wr bm k (.slice A' m c') cs last)) (fun _ i _ => n - (intOf i).toNat)
      case atStart => exact ⟨0, none, 0, 0, [], _, rfl, by go_num, ⟨Nat.zero_le _⟩, H1⟩
      case round =>
        clear H1
        obtain ⟨k, A', m, c', cs, last, rfl, rfl, HK, HH⟩ := hrel
        by_cases hlt : k < n
        · have hdk : decide ((k : Int) < (n : Int)) = true := decide_eq_true (by omega)
          obtain ⟨x, hxk⟩ : ∃ x, ks[k]? = some x := ⟨_, List.getElem?_eq_getElem (by have := HNL.out; omega)⟩
          obtain ⟨ad, rfl, hall⟩ := (HKr.out.2.2).2.2 (show 0 < ks.length by have := HNL.out; omega)
          have hcell : wr.cell? (ad.add k) = some (.int .u8 x) := by
            obtain ⟨cs0, h1, h2, h3⟩ := hall k x hxk
            have h4 : cs0 = [.int .u8 x] := h2
            have h5 := h3 0 (.int .u8 x) (by rw [h4]; rfl)
            have h6 : w.cell? (ad.add k) = some (.int .u8 x) := by
              have e : k * (Kd.int .u8).sz + 0 = k := by show k * 1 + 0 = k; omega
              rw [e] at h5
              exact h5
            exact cell_keep (HH.out.ch.quiet fun _ h => h.elim) h6
          have hadb : (ad.add k).block < wr.heap.size := cell_lt hcell
          have HC8 := Aside0.mk hcell
          have hx := bk x (List.mem_of_getElem? hxk)
          obtain ⟨y, hy⟩ : ∃ y, y = x.tmod 3 := ⟨_, rfl⟩
          have hy0 : 0 ≤ y ∧ y < 3 := by rw [hy, Int.tmod_eq_emod_of_nonneg hx.1]; omega
          have hw1 : IntKind.u8.wrap (97 + y) = 97 + y := by simp [IntKind.wrap, IntKind.signed, IntKind.bits]; omega
          have hw2 : IntKind.u8.wrap (k : Int) = (k : Int) := by simp [IntKind.wrap, IntKind.signed, IntKind.bits]; omega
          have hw3 : IntKind.u8.wrap (48 + (k : Int)) = 48 + (k : Int) := by simp [IntKind.wrap, IntKind.signed, IntKind.bits]; omega
          have b0 : (0 : Int) ≤ (k : Int) := by omega
          have kc := str_conv
          obtain ⟨key, hkey⟩ : ∃ u : ByteArray, u = S1 (97 + x % 3) := ⟨_, rfl⟩
          obtain ⟨val, hval⟩ : ∃ u : ByteArray, u = S1 (48 + (k : Int)) := ⟨_, rfl⟩
          go_upto_region 11 with (refine step_bytes rfl (.tmp 49) rfl (S1 (48 + (k : Int))) rfl (Nat.le_of_ble_eq_true rfl) ?_; intro w1 g1 c1 hc1 hd1; have C1 := Aside0.mk (((Ch.refl wr (fun _ => False)).alloc _).alloc _ |>.then_ hc1 (fun _ h => h.elim)); have D1 := Aside0.mk hd1; clear hc1 hd1)
          refine wp_gen (fun W => Aside0 (Ch wr W (fun _ => False)) ∧ Aside0 (W.heap[w1.heap.size]? = some (.cells (putC k (S1 (97 + x % 3)) ⟨some ⟨g1, 0, none⟩, (S1 (48 + (k : Int))).size, c1, numsB (S1 (48 + (k : Int)))⟩).cells.toArray 29)) ∧ Aside0 (Dt W ⟨some ⟨g1, 0, none⟩, (S1 (48 + (k : Int))).size, c1, numsB (S1 (48 + (k : Int)))⟩) ∧ Aside0 (w1.heap.size < W.heap.size)) ?_ (fun W2 hW2 => ?_)
          · exact ⟨⟨C1.out.alloc _⟩, ⟨alloc_self _ _⟩, ⟨D1.out.keep ((Ch.refl w1 (fun _ => False)).alloc _) (fun _ _ _ h => h.elim)⟩, ⟨by simp⟩⟩
          obtain ⟨C2, B2, D2, L2⟩ := hW2
          clear hcell hadb
          have hcell2 : W2.cell? (ad.add k) = some (.int .u8 x) := cell_keep (C2.out.quiet fun _ h => h.elim) HC8.out
          obtain ⟨p, hp⟩ : ∃ p, p = w1.heap.size := ⟨_, rfl⟩
          have HP := Aside0.mk (show wr.heap.size ≤ p ∧ p ≠ bm ∧ w.heap.size ≤ p from by
            have h1 := C1.out.size
            have h2 := HH.out.lt
            omega)
          rw [← hp] at B2 L2 ⊢
          clear hp C1 D1
          have CW2 := Aside0.mk (HH.out.ch.then_ C2.out (fun _ h => h.elim))
          have R2 := Aside0.mk (C2.out.R HH.out.row (fun _ _ h => h))
          have M2 := Aside0.mk (HH.out.map.Ch C2.out (fun h => h))
          have F2 := Aside0.mk (show ∀ x, x ∈ cs → FitD W2 x from fun x hx => by
            obtain ⟨h1, h2, h3, h4, h5, h6⟩ := HH.out.fit x hx
            exact ⟨h1, h2, h3, h4.keep C2.out (fun _ _ _ h => h.elim), h5.keep C2.out (fun _ _ _ h => h.elim), h6⟩)
          have hfz : ∀ i, W2.frozen? ⟨p, i, none⟩ = false := fun i => blk_frozen (w := W2) B2.out i
          have y0 : W2.cell? ⟨p, 0, none⟩ = some (.int .i64 0) := cell_any B2.out rfl
          have y1 : W2.cell? ⟨p, 1, none⟩ = some (.int .i64 1) := cell_any B2.out rfl
          have y2 : W2.cell? ⟨p, 2, none⟩ = some (.string (S1 (97 + x % 3))) := cell_any B2.out rfl
          have y3 : W2.cell? ⟨p, 3, none⟩ = some (.slice (some ⟨g1, 0, none⟩) (S1 (48 + (k : Int))).size c1) := cell_any B2.out rfl
          have y4 : W2.cell? ⟨p, 4, none⟩ = some (.int .i64 (3 * (k : Int) + 1)) := cell_any B2.out rfl
          have y5 : W2.cell? ⟨p, 5, none⟩ = some (.int .i64 (3 * (k : Int) + 3)) := cell_any B2.out rfl
          have y6 : W2.cell? ⟨p, 6, none⟩ = some (.int .i64 (3 * (k : Int) + 2)) := cell_any B2.out rfl
          have y7 : W2.cell? ⟨p, 7, none⟩ = some (.int .i64 0) := cell_any B2.out rfl
          have y8 : W2.cell? ⟨p, 8, none⟩ = some (.slice none 0 0) := cell_any B2.out rfl
          have y9 : W2.cell? ⟨p, 9, none⟩ = some (.slice none 0 0) := cell_any B2.out rfl
          rcases Int.emod_two_eq x with h2 | h2
          · have h3 : x.tmod 2 = 0 := by rw [Int.tmod_eq_emod_of_nonneg hx.1]; exact h2
            have HKS := Aside0.mk (show (S1 (97 + x % 3)).size ≤ maxLen from by rw [S1_size]; decide)
            have hl2 := M2.out.look (k := S1 (97 + x % 3)) HKS.out
            cases hlast : last (S1 (97 + x % 3)) with
            | none =>
              rw [hlast] at hl2
              have HUS := Aside0.mk (show (⟨#[]⟩ : ByteArray).size ≤ 1000 from by decide)
              simp only [strV, Option.isSome] at hl2
              go_upto_region 14 with (refine step_bytes rfl (.tmp 74) rfl ⟨#[]⟩ rfl HUS.out ?_; intro w3 g3 c3 hc3 hd3; have C3 := Aside0.mk hc3; have D3 := Aside0.mk hd3; have B3 := Aside0.mk (hc3.blk B2.out (fun h => h)); clear hc3 hd3; obtain ⟨z0, z1, z2, z3, z4, z5, z6, z7, z8, z9, zf⟩ := cells10 _ B3.out)
              refine wp_gen (fun W => Aside0 (Ch w3 W (fun j => j = p)) ∧ Aside0 (W.heap[p]? = some (.cells (getC k (S1 (97 + x % 3)) ⟨some ⟨g3, 0, none⟩, (⟨#[]⟩ : ByteArray).size, c3, numsB ⟨#[]⟩⟩ 0).cells.toArray 29))) ?_ (fun W4 hW4 => ?_)
              · exact ⟨⟨(Ch.refl w3 (fun j => j = p)).setCells (g := p) (Or.inl rfl) 0 (getC k (S1 (97 + x % 3)) ⟨some ⟨g3, 0, none⟩, (⟨#[]⟩ : ByteArray).size, c3, numsB ⟨#[]⟩⟩ 0).cells⟩, ⟨put_all B3.out rfl (getC k (S1 (97 + x % 3)) ⟨some ⟨g3, 0, none⟩, (⟨#[]⟩ : ByteArray).size, c3, numsB ⟨#[]⟩⟩ 0)⟩⟩
              clear z0 z1 z2 z3 z4 z5 z6 z7 z8 z9 zf y0 y1 y2 y3 y4 y5 y6 y7 y8 y9 hfz hl2
              obtain ⟨C4, B4⟩ := hW4
              obtain ⟨z0, z1, z2, z3, z4, z5, z6, z7, z8, z9, zf⟩ := cells10 _ B4.out
              go_upto_region 17 with (fail)
              refine wp_gen (fun W => Aside0 (Ch W4 W (fun j => j = p)) ∧ Aside0 (W.heap[p]? = some (.cells (getC k (S1 (97 + x % 3)) ⟨some ⟨g3, 0, none⟩, (⟨#[]⟩ : ByteArray).size, c3, numsB ⟨#[]⟩⟩ 7).cells.toArray 29))) ?_ (fun W5 hW5 => ?_)
              · exact ⟨⟨(Ch.refl W4 (fun j => j = p)).setCell (p := ⟨p, 7, none⟩) (Or.inl rfl) (.int .i64 7)⟩, ⟨put_e _ B4.out 7⟩⟩
              clear z0 z1 z2 z3 z4 z5 z6 z7 z8 z9 zf
              obtain ⟨C5, B5⟩ := hW5
              replace C4 := Aside0.mk (C4.out.then_ C5.out (fun j hj => Or.inl hj))
              clear B4
              have B4 := B5
              have hpo : ∀ g cs' f, g = p → w3.heap[g]? ≠ some (.cells cs' 5 f) := fun g cs' f hg => kept_row ⟨_, hg ▸ B3.out⟩ cs' f
              have hr3 := C3.out.R R2.out (fun _ _ h => h)
              have hnp : ∀ j, (Value.slice A' m c').ownBlock = some j → j ≠ p := fun j hj => by have h1 := Kd.R_lt HH.out.row j hj; have h2 := HP.out.1; omega
              have R4 := Aside0.mk (R_ok (C4.out.R (R_ok hr3 hnp) (fun j hj e => hj e)) (fun j hj => R_okv hr3 j hj))
              have CW4 := Aside0.mk ((CW2.out.then_ C3.out (fun _ h => h.elim)).then_ C4.out (fun j hj => Or.inr (hj ▸ HP.out.2.2)))
              have M4 := Aside0.mk (((M2.out.Ch C3.out (fun h => h)).Ch C4.out (fun h => HP.out.2.1 h.symm)).mono)
              have F4 := Aside0.mk (fun y hy => ((F2.out y hy).keep C3.out (fun _ _ _ h => h.elim)).keep C4.out hpo)
              have D4 := Aside0.mk (D3.out.keep C4.out hpo)
              have LT4 := Aside0.mk (show w.heap.size ≤ bm ∧ bm < W5.heap.size from ⟨HH.out.lt.1, by have h1 := HH.out.lt.2; have h4 := C2.out.size; have h5 := C3.out.size; have h6 := C4.out.size; omega⟩)
              have HFR := Aside0.mk (show ∀ j, W5.heap.size ≤ j → w.heap.size ≤ j ∧ j ≠ bm from fun j hj => by have := LT4.out; have := CW4.out.size; omega)
              have HB4 := Aside0.mk CW4.out.size
              have HN := Aside0.mk (show (cs.length + 1) * 136 ≤ 140737488355328 from by have := HH.out.len; omega)
              have hpb : p < W5.heap.size := by have h1 := L2.out; have h2 := C3.out.size; have h3 := C4.out.size; omega
              clear hpo hr3 hnp
              have y0 : W5.cell? ⟨p, 0, none⟩ = some (.int .i64 0) := cell_any B4.out rfl
              have y1 : W5.cell? ⟨p, 1, none⟩ = some (.int .i64 2) := cell_any B4.out rfl
              have y2 : W5.cell? ⟨p, 2, none⟩ = some (.string (S1 (97 + x % 3))) := cell_any B4.out rfl
              have y3 : W5.cell? ⟨p, 3, none⟩ = some (.slice none 0 0) := cell_any B4.out rfl
              have y4 : W5.cell? ⟨p, 4, none⟩ = some (.int .i64 (3 * (k : Int) + 1)) := cell_any B4.out rfl
              have y5 : W5.cell? ⟨p, 5, none⟩ = some (.int .i64 (3 * (k : Int) + 3)) := cell_any B4.out rfl
              have y6 : W5.cell? ⟨p, 6, none⟩ = some (.int .i64 (3 * (k : Int) + 2)) := cell_any B4.out rfl
              have y7 : W5.cell? ⟨p, 7, none⟩ = some (.int .i64 7) := cell_any B4.out rfl
              have y8 : W5.cell? ⟨p, 8, none⟩ = some (.slice (some ⟨g3, 0, none⟩) (⟨#[]⟩ : ByteArray).size c3) := cell_any B4.out rfl
              have y9 : W5.cell? ⟨p, 9, none⟩ = some (.slice none 0 0) := cell_any B4.out rfl
              clear hw1 hw2 hw3 hy0 hy kc hcell2 h3 h2 b0 hx hall
              go_wp2_with ((with_reducible refine gate_builtin (b := .append) (xs := #[.tmp 92, .tmp 94]) rfl ?_); at_builtin; go_must (refine apC2 w.heap.size _ rfl _ _ rfl (.slice A' m c') _ (getC k (S1 (97 + x % 3)) ⟨some ⟨g3, 0, none⟩, (⟨#[]⟩ : ByteArray).size, c3, numsB ⟨#[]⟩⟩ 7) rfl _ rfl rfl R4.out HFR.out HB4.out HN.out ?_; intro v1 w6 hr6 hc6; obtain ⟨A1, m1, c1', rfl⟩ := R_sl' hr6; have R6 := Aside0.mk hr6; have C6 := Aside0.mk hc6; clear hr6 hc6))
              have HH4 := Aside0.mk (here_step R4.out CW4.out LT4.out M4.out HH.out.len F4.out ⟨Or.inr rfl, Or.inr rfl, HKS.out, Or.inl rfl, D4.out, rfl⟩ (by
                have h := good_miss HH.out.good (S1 (97 + x % 3)) ⟨some ⟨g3, 0, none⟩, (⟨#[]⟩ : ByteArray).size, c3, numsB ⟨#[]⟩⟩ hlast
                rw [HH.out.len] at h
                exact h) HH.out.str R6.out C6.out)
              have hrel : ∃ (k' : Nat) (A'' : Option Addr) (m'' c'' : Nat) (cs' : List Cl) (last' : Last), Value.slice A1 m1 c1' = .slice A'' m'' c'' ∧ Value.int .i64 ((k : Int) + 1) = .int .i64 k' ∧ Aside0 (k' ≤ n) ∧ Aside0 (Here w w6 bm k' (.slice A'' m'' c'') cs' last') := ⟨k + 1, A1, m1, c1', _, _, rfl, by go_num, ⟨by omega⟩, HH4⟩
              refine ⟨?_, ?measure⟩
              · exact hrel
              case measure => simp [intOf]; omega
            | some u =>
              rw [hlast] at hl2
              have HUS := Aside0.mk (show u.size ≤ 1000 from by rw [HH.out.str _ u hlast]; omega)
              simp only [strV, Option.isSome] at hl2
              go_upto_region 14 with (refine step_bytes rfl (.tmp 74) rfl u rfl HUS.out ?_; intro w3 g3 c3 hc3 hd3; have C3 := Aside0.mk hc3; have D3 := Aside0.mk hd3; have B3 := Aside0.mk (hc3.blk B2.out (fun h => h)); clear hc3 hd3; obtain ⟨z0, z1, z2, z3, z4, z5, z6, z7, z8, z9, zf⟩ := cells10 _ B3.out)
              refine wp_gen (fun W => Aside0 (Ch w3 W (fun j => j = p)) ∧ Aside0 (W.heap[p]? = some (.cells (getC k (S1 (97 + x % 3)) ⟨some ⟨g3, 0, none⟩, u.size, c3, numsB u⟩ 0).cells.toArray 29))) ?_ (fun W4 hW4 => ?_)
              · exact ⟨⟨(Ch.refl w3 (fun j => j = p)).setCells (g := p) (Or.inl rfl) 0 (getC k (S1 (97 + x % 3)) ⟨some ⟨g3, 0, none⟩, u.size, c3, numsB u⟩ 0).cells⟩, ⟨put_all B3.out rfl (getC k (S1 (97 + x % 3)) ⟨some ⟨g3, 0, none⟩, u.size, c3, numsB u⟩ 0)⟩⟩
              clear z0 z1 z2 z3 z4 z5 z6 z7 z8 z9 zf y0 y1 y2 y3 y4 y5 y6 y7 y8 y9 hfz hl2
              obtain ⟨C4, B4⟩ := hW4
              have hpo : ∀ g cs' f, g = p → w3.heap[g]? ≠ some (.cells cs' 5 f) := fun g cs' f hg => kept_row ⟨_, hg ▸ B3.out⟩ cs' f
              have hr3 := C3.out.R R2.out (fun _ _ h => h)
              have hnp : ∀ j, (Value.slice A' m c').ownBlock = some j → j ≠ p := fun j hj => by have h1 := Kd.R_lt HH.out.row j hj; have h2 := HP.out.1; omega
              have R4 := Aside0.mk (R_ok (C4.out.R (R_ok hr3 hnp) (fun j hj e => hj e)) (fun j hj => R_okv hr3 j hj))
              have CW4 := Aside0.mk ((CW2.out.then_ C3.out (fun _ h => h.elim)).then_ C4.out (fun j hj => Or.inr (hj ▸ HP.out.2.2)))
              have M4 := Aside0.mk (((M2.out.Ch C3.out (fun h => h)).Ch C4.out (fun h => HP.out.2.1 h.symm)).mono)
              have F4 := Aside0.mk (fun y hy => ((F2.out y hy).keep C3.out (fun _ _ _ h => h.elim)).keep C4.out hpo)
              have D4 := Aside0.mk (D3.out.keep C4.out hpo)
              have LT4 := Aside0.mk (show w.heap.size ≤ bm ∧ bm < W4.heap.size from ⟨HH.out.lt.1, by have h1 := HH.out.lt.2; have h4 := C2.out.size; have h5 := C3.out.size; have h6 := C4.out.size; omega⟩)
              have HFR := Aside0.mk (show ∀ j, W4.heap.size ≤ j → w.heap.size ≤ j ∧ j ≠ bm from fun j hj => by have := LT4.out; have := CW4.out.size; omega)
              have HB4 := Aside0.mk CW4.out.size
              have HN := Aside0.mk (show (cs.length + 1) * 136 ≤ 140737488355328 from by have := HH.out.len; omega)
              have hpb : p < W4.heap.size := by have h1 := L2.out; have h2 := C3.out.size; have h3 := C4.out.size; omega
              clear hpo hr3 hnp
              have y0 : W4.cell? ⟨p, 0, none⟩ = some (.int .i64 0) := cell_any B4.out rfl
              have y1 : W4.cell? ⟨p, 1, none⟩ = some (.int .i64 2) := cell_any B4.out rfl
              have y2 : W4.cell? ⟨p, 2, none⟩ = some (.string (S1 (97 + x % 3))) := cell_any B4.out rfl
              have y3 : W4.cell? ⟨p, 3, none⟩ = some (.slice none 0 0) := cell_any B4.out rfl
              have y4 : W4.cell? ⟨p, 4, none⟩ = some (.int .i64 (3 * (k : Int) + 1)) := cell_any B4.out rfl
              have y5 : W4.cell? ⟨p, 5, none⟩ = some (.int .i64 (3 * (k : Int) + 3)) := cell_any B4.out rfl
              have y6 : W4.cell? ⟨p, 6, none⟩ = some (.int .i64 (3 * (k : Int) + 2)) := cell_any B4.out rfl
              have y7 : W4.cell? ⟨p, 7, none⟩ = some (.int .i64 0) := cell_any B4.out rfl
              have y8 : W4.cell? ⟨p, 8, none⟩ = some (.slice (some ⟨g3, 0, none⟩) u.size c3) := cell_any B4.out rfl
              have y9 : W4.cell? ⟨p, 9, none⟩ = some (.slice none 0 0) := cell_any B4.out rfl
              clear hw1 hw2 hw3 hy0 hy kc hcell2 h3 h2 b0 hx hall
              go_wp2_with ((with_reducible refine gate_builtin (b := .append) (xs := #[.tmp 92, .tmp 94]) rfl ?_); at_builtin; go_must (refine apC2 w.heap.size _ rfl _ _ rfl (.slice A' m c') _ (getC k (S1 (97 + x % 3)) ⟨some ⟨g3, 0, none⟩, u.size, c3, numsB u⟩ 0) rfl _ rfl rfl R4.out HFR.out HB4.out HN.out ?_; intro v1 w6 hr6 hc6; obtain ⟨A1, m1, c1', rfl⟩ := R_sl' hr6; have R6 := Aside0.mk hr6; have C6 := Aside0.mk hc6; clear hr6 hc6))
              have HH4 := Aside0.mk (here_step R4.out CW4.out LT4.out M4.out HH.out.len F4.out ⟨Or.inr rfl, Or.inl rfl, HKS.out, Or.inl rfl, D4.out, rfl⟩ (by
                have h := good_get HH.out.good (S1 (97 + x % 3)) u ⟨some ⟨g3, 0, none⟩, u.size, c3, numsB u⟩ rfl hlast
                rw [HH.out.len] at h
                exact h) HH.out.str R6.out C6.out)
              have hrel : ∃ (k' : Nat) (A'' : Option Addr) (m'' c'' : Nat) (cs' : List Cl) (last' : Last), Value.slice A1 m1 c1' = .slice A'' m'' c'' ∧ Value.int .i64 ((k : Int) + 1) = .int .i64 k' ∧ Aside0 (k' ≤ n) ∧ Aside0 (Here w w6 bm k' (.slice A'' m'' c'') cs' last') := ⟨k + 1, A1, m1, c1', _, _, rfl, by go_num, ⟨by omega⟩, HH4⟩
              refine ⟨?_, ?measure⟩
              · exact hrel
              case measure => simp [intOf]; omega
          · have h3 : x.tmod 2 = 1 := by rw [Int.tmod_eq_emod_of_nonneg hx.1]; exact h2
            have HMX := Aside0.mk (show k < maxLen from by unfold maxLen; omega)
            have HKS := Aside0.mk (show (S1 (97 + x % 3)).size ≤ maxLen from by rw [S1_size]; decide)
            go_upto_region 17 with (at_mapUpdate; go_must (refine step_puts M2.out rfl _ _ _ rfl rfl HMX.out (S1 (97 + x % 3)) (S1 (48 + (k : Int))) rfl rfl HKS.out ?_; intro w3 hm3 hc3; have M3 := Aside0.mk hm3; have C3 := Aside0.mk hc3; clear hm3 hc3))
            clear y0 y1 y2 y3 y4 y5 y6 y7 y8 y9 hfz
            have B3 := Aside0.mk (C3.out.blk B2.out HP.out.2.1)
            have R3 := Aside0.mk (C3.out.R R2.out (fun j hj e => hj.2 e))
            have CW3 := Aside0.mk (CW2.out.then_ C3.out (fun j hj => Or.inr (hj ▸ HH.out.lt.1)))
            have F3 := Aside0.mk (fun y hy => (F2.out y hy).keep C3.out M2.out.other)
            have D3 := Aside0.mk (D2.out.keep C3.out M2.out.other)
            have LT3 := Aside0.mk (show w.heap.size ≤ bm ∧ bm < w3.heap.size from ⟨HH.out.lt.1, by have h1 := HH.out.lt.2; have h4 := C2.out.size; have h5 := C3.out.size; omega⟩)
            have HFR := Aside0.mk (show ∀ j, w3.heap.size ≤ j → w.heap.size ≤ j ∧ j ≠ bm from fun j hj => by have := LT3.out; have := CW3.out.size; omega)
            have HB3 := Aside0.mk CW3.out.size
            have HN := Aside0.mk (show (cs.length + 1) * 136 ≤ 140737488355328 from by have := HH.out.len; omega)
            have hpb : p < w3.heap.size := by have h1 := L2.out; have h2 := C3.out.size; omega
            have y0 : w3.cell? ⟨p, 0, none⟩ = some (.int .i64 0) := cell_any B3.out rfl
            have y1 : w3.cell? ⟨p, 1, none⟩ = some (.int .i64 1) := cell_any B3.out rfl
            have y2 : w3.cell? ⟨p, 2, none⟩ = some (.string (S1 (97 + x % 3))) := cell_any B3.out rfl
            have y3 : w3.cell? ⟨p, 3, none⟩ = some (.slice (some ⟨g1, 0, none⟩) (S1 (48 + (k : Int))).size c1) := cell_any B3.out rfl
            have y4 : w3.cell? ⟨p, 4, none⟩ = some (.int .i64 (3 * (k : Int) + 1)) := cell_any B3.out rfl
            have y5 : w3.cell? ⟨p, 5, none⟩ = some (.int .i64 (3 * (k : Int) + 3)) := cell_any B3.out rfl
            have y6 : w3.cell? ⟨p, 6, none⟩ = some (.int .i64 (3 * (k : Int) + 2)) := cell_any B3.out rfl
            have y7 : w3.cell? ⟨p, 7, none⟩ = some (.int .i64 0) := cell_any B3.out rfl
            have y8 : w3.cell? ⟨p, 8, none⟩ = some (.slice none 0 0) := cell_any B3.out rfl
            have y9 : w3.cell? ⟨p, 9, none⟩ = some (.slice none 0 0) := cell_any B3.out rfl
            clear hw1 hw2 hw3 hy0 hy kc hcell2 h3 h2 b0 hx hall
            go_wp2_with ((with_reducible refine gate_builtin (b := .append) (xs := #[.tmp 92, .tmp 94]) rfl ?_); at_builtin; go_must (refine apC2 w.heap.size _ rfl _ _ rfl (.slice A' m c') _ (putC k (S1 (97 + x % 3)) ⟨some ⟨g1, 0, none⟩, (S1 (48 + (k : Int))).size, c1, numsB (S1 (48 + (k : Int)))⟩) rfl _ rfl rfl R3.out HFR.out HB3.out HN.out ?_; intro v1 w4 hr4 hc4; obtain ⟨A1, m1, c1', rfl⟩ := R_sl' hr4; have R4 := Aside0.mk hr4; have C4 := Aside0.mk hc4; clear hr4 hc4))
            have HH4 := Aside0.mk (here_step R3.out CW3.out LT3.out M3.out HH.out.len F3.out ⟨Or.inl rfl, Or.inl rfl, HKS.out, D3.out, Or.inl rfl, rfl⟩ (by
              have h := good_put HH.out.good (S1 (97 + x % 3)) (S1 (48 + (k : Int))) ⟨some ⟨g1, 0, none⟩, (S1 (48 + (k : Int))).size, c1, numsB (S1 (48 + (k : Int)))⟩ rfl
              rw [HH.out.len] at h
              exact h) (by
              intro q' u hu
              unfold Last.put at hu
              split at hu
              · cases hu; rfl
              · exact HH.out.str q' u hu) R4.out C4.out)
            have hrel : ∃ (k' : Nat) (A'' : Option Addr) (m'' c'' : Nat) (cs' : List Cl) (last' : Last), Value.slice A1 m1 c1' = .slice A'' m'' c'' ∧ Value.int .i64 ((k : Int) + 1) = .int .i64 k' ∧ Aside0 (k' ≤ n) ∧ Aside0 (Here w w4 bm k' (.slice A'' m'' c'') cs' last') := ⟨k + 1, A1, m1, c1', _, _, rfl, by go_num, ⟨by omega⟩, HH4⟩
            refine ⟨?_, ?measure⟩
            · exact hrel
            case measure => simp [intOf]; omega
        · have hdk : decide ((k : Int) < (n : Int)) = false := decide_eq_false (by omega)
          obtain ⟨tn, htn⟩ : ∃ t : Nat, z.tmod (n : Int) = (t : Int) ∧ t < n := ⟨(z.tmod (n : Int)).toNat, by have := Int.tmod_nonneg (n : Int) hz0; omega, by have h1 := Int.tmod_nonneg (n : Int) hz0; have h2 := Int.tmod_lt_of_pos z (show (0 : Int) < (n : Int) by omega); omega⟩
          obtain ⟨qn, hqn⟩ : ∃ t : Nat, q.tmod (n : Int) = (t : Int) ∧ t < n := ⟨(q.tmod (n : Int)).toNat, by have := Int.tmod_nonneg (n : Int) hq0; omega, by have h1 := Int.tmod_nonneg (n : Int) hq0; have h2 := Int.tmod_lt_of_pos q (show (0 : Int) < (n : Int) by omega); omega⟩
          have hkn : k = n := by have := HK.out; omega
          subst hkn
          have hmk : m = k := by rw [(Kd.R_reads' HH.out.row).1, HH.out.len]
          subst hmk
          rcases R_plain0 HH.out.row with ⟨_, h0', _⟩ | ⟨g, rfl⟩
          · omega
          have w1z : IntKind.i64.wrap z = z := IntWalk.i64_in _ (by omega)
          have w1q : IntKind.i64.wrap q = q := IntWalk.i64_in _ (by omega)
          have htn1 := htn.1
          have hqn1 := hqn.1
          have b1 : (0 : Int) ≤ (tn : Int) := by omega
          have b2 : (tn : Int) ≤ (m : Int) := by have := htn.2; omega
          have b3 : (tn : Int) ≤ (c' : Int) := by have := htn.2; have := (Kd.R_reads' HH.out.row).2.1; omega
          go_upto_region 19 with (fail)
          have HRw := Aside0.mk HH.out.row
          have HCw := Aside0.mk HH.out.ch
          have HLN := Aside0.mk HH.out.len
          have CM := Aside0.mk (show kCl.C wr (some ⟨g, 0, none⟩) m cs from (by have h := Kd.R_reads' HH.out.row; rw [HH.out.len] at h; exact h.2.2))
          have CD := Aside0.mk (C_part CM.out tn (m - tn) (by have := htn.2; omega))
          have CT := Aside0.mk (C_part CM.out 0 tn (by have := htn.2; omega))
          obtain ⟨x0, hx0⟩ : ∃ x0, cs[0]? = some x0 := ⟨_, List.getElem?_eq_getElem (by have := HLN.out; omega)⟩
          have t0 : wr.cell? ⟨g, 0, none⟩ = some (.int .i64 0) := by
            have h := clC_at CM.out 0 x0 hx0 0 _ rfl
            rw [show x0.task = 0 from (HH.out.fit x0 (List.mem_of_getElem? hx0)).2.2.2.2.2] at h
            simpa using h
          have T0 := Aside0.mk t0
          have HN1 := Aside0.mk (show (([] : List Cl).length + (m - tn)) * 136 ≤ 140737488355328 from by rw [List.length_nil]; omega)
          have HN2 := Aside0.mk (show (([] ++ (cs.drop tn).take (m - tn)).length + tn) * 136 ≤ 140737488355328 from by
            have h1 := htn.2
            have h2 := HLN.out
            rw [List.nil_append, List.length_take, List.length_drop]
            omega)
          have hct : (c' = tn) = False := eq_false (by have := htn.2; have := (Kd.R_reads' HRw.out).2.1; omega)
          have hct2 : ¬ c' = tn := fun e => hct ▸ e
          clear htn1
          go_region_held3 (fun w' => w'.cell? ⟨g, 0, none⟩ = some (.int .i64 0)) (first | (with_reducible exact T0.out) | (with_reducible exact T1.out) | (with_reducible exact T2.out) | go_keep) (first | (refine apCstep w.heap.size (wanted_none rfl) (.tmp 101) (.tmp 104) rfl (.slice (some ⟨wr.heap.size, 0, none⟩) 0 0) [] ((cs.drop tn).take (m - tn)) (some ⟨g, tn * 10, none⟩) (m - tn) (c' - tn) (fun j => wr.heap.size ≤ j) rfl rfl ?aO ?aR ?aF ?aS ?aL ?_; (case aO => exact Kd.R_drew (R_empty kCl 29 wr w.heap.size _ HCw.out.size (Nat.le_refl _))); (case aR => exact Kd.C_below CD.out (((Ch.refl wr (fun _ => False)).alloc _).drew.quiet (fun _ h => h.elim))); (case aF => exact fun j hj => Nat.le_trans (by simp) hj); (case aS => exact Nat.le_trans HCw.out.size (by simp)); (case aL => exact HN1.out); intro v5 w5 hr5 hc5; obtain ⟨A5, m5, c5, rfl⟩ := R_sl' hr5; have R5 := Aside0.mk hr5; have C5 := Aside0.mk (((Ch.refl wr (fun _ => False)).alloc _).drew.then_ hc5 (fun j hj => Or.inr (by simp [Value.ownBlock] at hj; omega))); clear hr5 hc5; have T1 := Aside0.mk (cell_keep (C5.out.quiet fun _ h => h.elim) T0.out)) | (refine apCstep w.heap.size (wanted_none rfl) (.tmp 105) (.tmp 108) rfl (.slice A5 m5 c5) ([] ++ (cs.drop tn).take (m - tn)) ((cs.drop 0).take tn) (some ⟨g, 0, none⟩) tn c' (fun j => wr.heap.size ≤ j) rfl rfl R5.out ?bR ?bF ?bS HN2.out ?_; (case bR => exact Kd.C_below CT.out (C5.out.quiet fun _ h => h.elim)); (case bF => exact fun j hj => Nat.le_trans C5.out.size hj); (case bS => exact Nat.le_trans HCw.out.size C5.out.size); intro v6 w6 hr6 hc6; obtain ⟨A6, m6, c6, rfl⟩ := R_sl' hr6; have R6 := Aside0.mk hr6; have C6 := Aside0.mk (C5.out.then_ hc6 (fun j hj => Or.inr (R_okv R5.out j hj))); clear hr6 hc6; have T2 := Aside0.mk (cell_keep (C6.out.quiet fun _ h => h.elim) T0.out)))
          have HXn := Aside0.mk (show cs ≠ [] from fun e => by have := HLN.out; rw [e] at this; simp at this; omega)
          have RE := Aside0.mk (R_empty kCl 29 w6 w6.heap.size (fun k => w6.heap.size ≤ k) (Nat.le_refl _) (Nat.le_refl _))
          have CE := Aside0.mk ((Ch.refl w6 (fun _ => False)).alloc (.cells #[] 29))
          have CM6 := Aside0.mk (Kd.C_below CM.out ((C6.out.then_ CE.out (fun _ h => h.elim)).quiet fun _ h => h.elim))
          have HN3 := Aside0.mk (show (([] : List Cl).length + m) * 136 ≤ 140737488355328 from by rw [List.length_nil]; omega)
          have HS3 := Aside0.mk CE.out.size
          obtain ⟨xq, hxq⟩ : ∃ xq, cs[qn]? = some xq := ⟨_, List.getElem?_eq_getElem (by have := HLN.out; have := hqn.2; omega)⟩
          have hat := HH.out.good.st qn xq hxq
          have hwq : IntKind.i64.wrap (xq.at_ + 1) = xq.at_ + 1 := IntWalk.i64_in _ (by have := hqn.2; omega)
          have HXQ := Aside0.mk hxq
          have HQ2 := Aside0.mk hqn.2
          clear hxq hat
          go_upto_region 22 with ((with_reducible refine gate_builtin (b := .append) (xs := #[.tmp 115, .tmp 116]) rfl ?_); at_builtin; go_must (refine apCs w6.heap.size rfl _ _ rfl _ [] cs (some ⟨g, 0, none⟩) m c' rfl rfl RE.out CM6.out HS3.out HN3.out ?_; intro v7 w7 hr7 hc7; obtain ⟨g7, c7, rfl⟩ := R_slp hr7 HXn.out; have R7 := Aside0.mk hr7; have C7 := Aside0.mk (CE.out.then_ hc7 (fun j hj => Or.inr (R_okv RE.out j hj))); clear hr7 hc7))
          simp only [List.nil_append, HLN.out] at R7
          have hz6 : w7.cell? ⟨g7, qn * 10 + 6, none⟩ = some (.int .i64 xq.at_) := cl_at R7.out qn xq HXQ.out 6 _ rfl
          have hz4 : w7.cell? ⟨g7, qn * 10 + 4, none⟩ = some (.int .i64 xq.fr) := cl_at R7.out qn xq HXQ.out 4 _ rfl
          have hfz : ∀ i, w7.frozen? ⟨g7, i, none⟩ = false := fun i => by
            obtain ⟨cells, hc⟩ := Kd.R_typed R7.out g7 (by simp [Value.ownBlock])
            exact blk_frozen (w := w7) hc i
          have b4 : (0 : Int) ≤ (qn : Int) := by omega
          have b5 : (qn : Int) < (m : Int) := by have := HQ2.out; omega
          have hln : cs.length = m := HLN.out
          go_upto_region 23 with (fail)
          have hgb : w6.heap.size ≤ g7 := R_okv R7.out g7 rfl
          have R8 := Aside0.mk (cl_put1 R7.out qn 4 HQ2.out (by omega) (.int .i64 (xq.at_ + 1)) xq (xq.fr0 (xq.at_ + 1)) HXQ.out rfl)
          have C8 := Aside0.mk (C7.out.setCell (p := ⟨g7, qn * 10 + 4, none⟩) (Or.inr hgb) (.int .i64 (xq.at_ + 1)))
          clear hz6 hz4 hfz hgb hwq hln
          generalize w7.setCell ⟨g7, qn * 10 + 4, none⟩ (.int .i64 (xq.at_ + 1)) = w8 at R8 C8 ⊢
          have CC := Aside0.mk (C6.out.then_ C8.out (fun _ h => h.elim))
          have RL := Aside0.mk (CC.out.R HRw.out (fun _ _ h => h))
          have RR := Aside0.mk (C8.out.R R6.out (fun _ _ h => h))
          have FL := Aside0.mk (show ∀ x, x ∈ cs → Fit1 w8 x from fun x hx => by
            obtain ⟨h1, h2, h3, h4, h5, _⟩ := HH.out.fit x hx
            exact ⟨h1, h2, h3, (h4.keep CC.out (fun _ _ _ h => h.elim)).Rd, (h5.keep CC.out (fun _ _ _ h => h.elim)).Rd⟩)
          have CW := Aside0.mk (HCw.out.then_ CC.out (fun _ h => h.elim))
          have HP1 := round_perm cs m tn HLN.out
          have HM6 := Aside0.mk (show m6 ≤ 1000 from by
            have h1 := (Kd.R_reads' R6.out).1
            rw [HP1.length_eq, HLN.out] at h1
            omega)
          have G1 := Aside0.mk (good_true HH.out.good (List.Perm.refl cs))
          have G2 := Aside0.mk (good_true HH.out.good HP1)
          have G3 := Aside0.mk (good_false HH.out.good qn xq HXQ.out)
          have L1 := Aside0.mk (show (live cs).length ≤ 20 from Nat.le_trans (List.length_filter_le _ _) (by rw [HLN.out]; omega))
          have L2 := Aside0.mk (show (live (([] ++ (cs.drop tn).take (m - tn)) ++ (cs.drop 0).take tn)).length ≤ 20 from Nat.le_trans (List.length_filter_le _ _) (by rw [HP1.length_eq, HLN.out]; omega))
          have L3 := Aside0.mk (show (live (cs.set qn (xq.fr0 (xq.at_ + 1)))).length ≤ 20 from Nat.le_trans (List.length_filter_le _ _) (by rw [List.length_set, HLN.out]; omega))
          have F2 := Aside0.mk (show ∀ x, x ∈ (([] ++ (cs.drop tn).take (m - tn)) ++ (cs.drop 0).take tn) → x ∈ cs from fun x hx => HP1.mem_iff.1 hx)
          have F3 := Aside0.mk (show ∀ W, Ch w8 W (fun _ => False) → ∀ x, x ∈ cs.set qn (xq.fr0 (xq.at_ + 1)) → Fit1 W x from fun W hW x hx => by
            rcases List.mem_or_eq_of_mem_set hx with h | h
            · exact (FL.out x h).keep hW
            · subst h
              exact (FL.out xq (List.mem_of_getElem? HXQ.out)).keep hW)
          clear HP1
          have hm1000 : m ≤ 1000 := by omega
          go_wp2_with fail
          refine (answers_calls w8).mono ?_
          rintro e w9 ⟨rfl, c9⟩
          have C9 := Aside0.mk c9
          clear c9
          go_wp2_with fail
          have K1 := Aside0.mk (check_own (some ⟨g, 0, none⟩) m c' cs w9 _ _ (C9.out.R RL.out (fun _ _ h => h)) hm1000 L1.out (fun x hx => (FL.out x (List.mem_filter.1 hx).1).keep C9.out))
          rw [G1.out] at K1
          refine K1.out.mono ?_
          rintro e w10 ⟨rfl, c10⟩
          have C10 := Aside0.mk (C9.out.then_ c10 (fun _ h => h.elim))
          clear c10
          go_wp2_with fail
          have K2 := Aside0.mk (check_own A6 m6 c6 _ w10 _ _ (C10.out.R RR.out (fun _ _ h => h)) HM6.out L2.out (fun x hx => (FL.out x (F2.out x (List.mem_filter.1 hx).1)).keep C10.out))
          rw [G2.out] at K2
          refine K2.out.mono ?_
          rintro e w11 ⟨rfl, c11⟩
          have C11 := Aside0.mk (C10.out.then_ c11 (fun _ h => h.elim))
          clear c11
          go_wp2_with fail
          have K3 := Aside0.mk (check_own (some ⟨g7, 0, none⟩) cs.length c7 _ w11 _ _ (by rw [HLN.out]; exact C11.out.R R8.out (fun _ _ h => h)) (by rw [HLN.out]; exact hm1000) L3.out (fun x hx => F3.out w11 C11.out x (List.mem_filter.1 hx).1))
          rw [G3.out] at K3
          refine K3.out.mono ?_
          rintro e w12 ⟨rfl, c12⟩
          have C12 := Aside0.mk (C11.out.then_ c12 (fun _ h => h.elim))
          clear c12
          go_wp2_with fail
          go_ret
          exact ⟨rfl, CW.out.then_ C12.out (fun _ h => h.elim)⟩
end Go.Proofs.Ytjlmhppifjoijaa
