/- The reference's writer: num. -/
import Derived.Test.YtcpekifbbjnjmaaF
import Derived.StillTailTactics
import Derived.Deep.RegionLaw
set_option linter.unusedVariables false
namespace Go.Proofs.Ytcpekifbbjnjmaa
open Go.RowKit Go.Proofs.YtcpekifbbjnjmaaW.PrintWords Go.Proofs.YtcpekifbbjnjmaaW.PrintLast Go.Proofs.YtcpekifbbjnjmaaW.PrintMore Go.Proofs.Ytcpekifbbjnjmaa.PRecBack
section
variable {ops : Array Oper} {o : Oper} {a : Act} {Q : Exit → Act → World → Prop} {Kc : Act → World → Prop}
/-- append(v, ys...) in a region that draws its order. -/
theorem ap8_step {w0 W : World} (hg : o.guard = none) (s x : Operand)
    (ho : o.op = .call { callee := .builtin .append, args := #[s, x], argTypes := #[29, 29] })
    (v : Value) (xs ys : List Int) (A : Option Addr) (m c : Nat) (hs : a.eval s = v) (hx : a.eval x = .slice A m c)
    (HO : B8.R 5 W w0.heap.size (fun _ => True) v xs) (HR : B8.C W A m ys) (HB : Below w0.heap.size w0 W) (hl : xs.length + m ≤ 140737488355328)
    (h : ∀ v1 w1, B8.R 5 w1 w0.heap.size (fun _ => True) v1 (xs ++ ys) → Ch W w1 (fun k => v.ownBlock = some k) → Kc (a.put o.dst v1) w1) :
    if Region.wanted o (yielded ops a.tmps) = true then Oper.wp Try.prog o a W Kc Q else Kc (a.put o.dst undef) W :=
  Kd.R_append_rows_step B8 (w0 := w0) w0.heap.size (by simp [Region.wanted, hg]) s x 29 5 (.int .u8 0) 1 ho Try.underlying29 inf5 rfl (by decide) (by omega) v xs ys A m c (fun _ => True) (fun _ => False) hs hx HO HR (fun _ _ h => h) (fun _ hk => hk.elim) (fun _ _ => trivial) HB HB.size (by omega)
    fun v1 w1 hr _ hg _ => h v1 w1 hr (Ch.of_grown hg)
end
/-- A call of a Go function, by its contract, as a step of a region that draws its order. -/
theorem step_call {P : Program} {ops : Array Oper} {o : Oper} {a : Act} {w : World} {Kc : Act → World → Prop} {Q : Exit → Act → World → Prop} {E : Prop}
    (hg : o.guard = none) (f : Nat) (xs : Array Operand) (ts : Array TypeId) (ho : o.op = .call { callee := .value (.func f), args := xs, argTypes := ts })
    (hf : ∀ args w, (callFunc f args).run P w = .ok (.enter f args) w) (args : Array Value) (hargs : xs.map a.eval = args) (Post : Ending → World → Prop) (hc : Calls P f args w Post) (hK : ∀ e w', Post e w' → ∃ v, e = .returned v ∧ Kc (a.put o.dst v) w') :
    if Region.wanted o (yielded ops a.tmps) = true then Oper.wp P o a w Kc Q else E := by
  subst hargs
  have hw : Region.wanted o (yielded ops a.tmps) = true := by simp [Region.wanted, hg]
  rw [if_pos hw]
  unfold Oper.wp
  simp [execOp, ho, resolve, invoke, Act.eval, Deferred.ofValue, go_sem]
  rw [hf, Oper.upon_enter]
  refine hc.mono ?_
  intro e w' h
  obtain ⟨v, rfl, h2⟩ := hK e w' h
  exact h2
theorem call43 (args : Array Value) (w : World) : (callFunc 43 args).run Try.prog w = .ok (.enter 43 args) w := by
  go_simp
/-- The reference's writer: what it has written is B, if nothing was bad. -/
def RW (w0 W : World) (g : Nat) (B : List Int) (b : Bool) : Prop := ∃ bs, Wr 55 w0 W g bs b ∧ (b = false → bs = B) ∧ bs.length ≤ B.length
theorem RW.alloc {w0 W : World} {g : Nat} {B : List Int} {b : Bool} (h : RW w0 W g B b) (o : Obj) : RW w0 (W.alloc o) g B b := by
  obtain ⟨bs, h1, h2, h3⟩ := h
  exact ⟨bs, h1.alloc o, h2, h3⟩
theorem RW.bel {w0 W : World} {g : Nat} {B : List Int} {b : Bool} (h : RW w0 W g B b) : Below w0.heap.size w0 W := by
  obtain ⟨bs, h1, _, _⟩ := h
  exact h1.bel
theorem RW.mark {w0 W : World} {g : Nat} {B X : List Int} {b : Bool} (h : RW w0 W g B b) : RW w0 (W.setCell ⟨g, 1, none⟩ (.bool true)) g (B ++ X) true ∧ TC w0.heap.size W (W.setCell ⟨g, 1, none⟩ (.bool true)) := by
  obtain ⟨bs, h1, _, h3⟩ := h
  exact ⟨⟨bs, h1.mark ne55 true, (fun e => by cases e), by rw [List.length_append]; omega⟩, h1.markTC (by simp) true⟩
def RWrote (w0 : World) (g : Nat) (B : List Int) (b : Bool) (w : World) (e : Ending) (w' : World) : Prop :=
  e = .returned (.tuple #[]) ∧ RW w0 w' g B b ∧ TC w0.heap.size w w'
set_option maxHeartbeats 4000000 in
theorem rnum_calls (w0 W : World) (g : Nat) (B : List Int) (b : Bool) (v z : Int) (n : Nat) (most : Int) (h : RW w0 W g B b) (hn : n = 1 ∨ n = 2 ∨ n = 4) (hz : z = n) (hm : most < 18446744073709551616) (hl : B.length + n ≤ 140737488355328) :
    Calls Try.prog 21 #[.pointer (some ⟨g, 0, none⟩), .int .i64 v, .int .i64 z, .int .i64 most] W (RWrote w0 g (B ++ Tok.b (.num v n most)) (b || Tok.bad (.num v n most)) W) := by
  subst hz
  have hM := h.mark (X := Tok.b (.num v n most))
  have HMM := Aside0.mk hM
  obtain ⟨bs, ⟨hg, hb, u, hmm, hr⟩, hB, hle⟩ := h
  obtain ⟨A, m, c, rfl⟩ := R_sl hr
  have c0 : W.cell? ⟨g, 0, none⟩ = some (.slice A m c) := blk_cell hmm 0
  have c1 : W.cell? ⟨g, 1, none⟩ = some (.bool b) := blk_cell hmm 1
  have f0 : W.frozen? ⟨g, 0, none⟩ = false := blk_frozen hmm 0
  have f1 : W.frozen? ⟨g, 1, none⟩ = false := blk_frozen hmm 1
  have HM := Aside0.mk hmm
  have HR := Aside0.mk hr
  have HB := Aside0.mk hb
  have HBB := Aside0.mk hB
  have HLE := Aside0.mk hle
  clear hM hmm hr hb hB hle
  by_cases hv : v < 0
  · have hv1 : decide (v < 0) = true := decide_eq_true hv
    have ev : Aside0 ((b || Tok.bad (.num v n most)) = true) := ⟨by simp [Tok.bad, hv]⟩
    go_enter Try.func21, Try.ntmps21
    go_wp2_with fail
    go_end0
    exact ⟨rfl, by rw [ev.out]; exact HMM.out.1, HMM.out.2⟩
  · have hv1 : decide (v < 0) = false := decide_eq_false hv
    by_cases hms : most < v
    · have hm1 : decide (most < v) = true := decide_eq_true hms
      have ev : Aside0 ((b || Tok.bad (.num v n most)) = true) := ⟨by simp [Tok.bad, hms]⟩
      go_enter Try.func21, Try.ntmps21
      go_wp2_with fail
      go_end0
      exact ⟨rfl, by rw [ev.out]; exact HMM.out.1, HMM.out.2⟩
    · have hm1 : decide (most < v) = false := decide_eq_false hms
      have ev : Aside0 (Tok.bad (.num v n most) = false) := ⟨by simp [Tok.bad]; omega⟩
      have hu : IntKind.u64.wrap v = u64 v := rfl
      have K : ∀ W1, Ch W W1 (fun _ => False) → Calls Try.prog 43 #[.int .u64 (u64 v), .int .i64 n] W1 fun e w' => ∃ A1 m1 c1, e = .returned (.slice A1 m1 c1) ∧ Aside0 (B8.C w' A1 m1 (be (u64 v) n)) ∧ Aside0 (m1 = n) ∧ Aside0 (Ch W w' (fun _ => False)) := fun W1 hc => by
        refine (flittingref01_Num.calls 5 (u64 v) n _ W1 (num_f (u64 v) (u64_lt v).1 (u64_lt v).2 n hn)).mono ?_
        rintro e w' ⟨v1, rfl, h1, h2⟩
        obtain ⟨A1, c1, rfl, _, h3⟩ := R_open h1
        exact ⟨A1, _, c1, rfl, ⟨h3⟩, ⟨be_length _ _⟩, ⟨hc.then_ (Ch.of_below h2 (fun _ => False)) (fun _ h => h.elim)⟩⟩
      have KK := Aside0.mk K
      have HZ : Aside0 (bs.length + n ≤ 140737488355328) := ⟨by have := HLE.out; omega⟩
      clear K
      go_enter Try.func21, Try.ntmps21
      go_wp2_with fail
      go_region_law (first | (refine step_call rfl 43 #[.tmp 24, .tmp 25] #[74, 3] rfl call43 #[.int .u64 (u64 v), .int .i64 n] ?h1 _ (KK.out _ ?c1) ?_; (case h1 => first | (simp [Act.eval]; done) | (simp [Act.eval, Act.put, go_sem]; done)); (case c1 => first | exact Ch.refl _ _ | exact (Ch.refl _ _).drew); rintro e w1 ⟨A1, m1, c1, rfl, hC, hM, C1⟩; refine ⟨_, rfl, ?_⟩; have HM1 := C1.out.blk HM.out (fun h => h); have k0 := blk_cell HM1 0; have k1 := blk_frozen HM1 0; clear HM1) | (refine ap8_step (w0 := w0) rfl (.tmp 22) (.tmp 26) rfl _ bs _ A1 m1 c1 rfl rfl ?aO hC.out ?aB ?aL ?_; (case aO => exact C1.out.R HR.out (fun _ _ h => h)); (case aB => exact HB.out.trans (C1.out.below HB.out.size (fun _ h => h.elim))); (case aL => have := HZ.out; rw [hM.out]; exact this); intro v1 w2 ho hc; obtain ⟨A2, m2, c2, rfl⟩ := R_sl ho; have P1 := Aside0.mk (Wr.put (T := 55) (.inr (.inl rfl)) hg (HB.out.trans (C1.out.below HB.out.size (fun _ h => h.elim))) (C1.out.blk HM.out (fun h => h)) (C1.out.R HR.out (fun _ _ h => h)) ho hc); have HM2 := hc.blk (C1.out.blk HM.out (fun h => h)) (fun e => (Kd.R_ne HR.out HM.out ne55) e.symm); have k2 := blk_cell HM2 0; have k3 := blk_frozen HM2 0; clear HM2 ho hc k0 k1))
      all_goals
        go_end0
        rw [ev.out, Bool.or_false]
        refine ⟨rfl, ⟨_, P1.out.1, fun e => ?_, ?_⟩, (show TC w0.heap.size W w1 from C1.out.mono (fun _ h => h.elim)).then_ P1.out.2⟩
        · rw [HBB.out e]
          rfl
        · rw [List.length_append, List.length_append, num_len, be_length]
          have := HLE.out
          omega
theorem rnum1_calls (w0 W : World) (g : Nat) (B : List Int) (b : Bool) (v : Int) (most : Int) (h : RW w0 W g B b) (hm : most < 18446744073709551616) (hl : B.length + 1 ≤ 140737488355328) :
    Calls Try.prog 21 #[.pointer (some ⟨g, 0, none⟩), .int .i64 v, .int .i64 1, .int .i64 most] W (RWrote w0 g (B ++ Tok.b (.num v 1 most)) (b || Tok.bad (.num v 1 most)) W) :=
  rnum_calls w0 W g B b v 1 1 most h (by simp) rfl hm hl
theorem rnum2_calls (w0 W : World) (g : Nat) (B : List Int) (b : Bool) (v : Int) (most : Int) (h : RW w0 W g B b) (hm : most < 18446744073709551616) (hl : B.length + 2 ≤ 140737488355328) :
    Calls Try.prog 21 #[.pointer (some ⟨g, 0, none⟩), .int .i64 v, .int .i64 2, .int .i64 most] W (RWrote w0 g (B ++ Tok.b (.num v 2 most)) (b || Tok.bad (.num v 2 most)) W) :=
  rnum_calls w0 W g B b v 2 2 most h (by simp) rfl hm hl
theorem rword_calls (w0 W : World) (g : Nat) (B : List Int) (b : Bool) (v : Int) (h : RW w0 W g B b) (hl : B.length + 4 ≤ 140737488355328) :
    Calls Try.prog 21 #[.pointer (some ⟨g, 0, none⟩), .int .i64 v, .int .i64 4, .int .i64 1073741824] W (RWrote w0 g (B ++ (word v).b) (b || (word v).bad) W) :=
  rnum_calls w0 W g B b v 4 4 1073741824 h (by simp) rfl (by decide) hl
set_option maxHeartbeats 1000000 in
theorem rkey_calls (w0 W : World) (g : Nat) (B : List Int) (b : Bool) (s : ByteArray) (h : RW w0 W g B b) (hl : B.length + (tb (tKey s)).length ≤ 140737488355328) :
    Calls Try.prog 22 #[.pointer (some ⟨g, 0, none⟩), .string s] W (RWrote w0 g (B ++ tb (tKey s)) (b || tbad (tKey s)) W) := by
  have hl2 : B.length + 1 + s.size ≤ 140737488355328 := by
    unfold tKey at hl
    simp only [tb_cons, tb_nil, List.append_nil, List.length_append, num_len, raw_len] at hl
    omega
  have hl3 : B.length + 1 ≤ 140737488355328 := by omega
  have hm16 : (16 : Int) < 18446744073709551616 := by decide
  have S0 := Aside0.mk h
  have HL := Aside0.mk hl2
  have HL3 := Aside0.mk hl3
  have H16 := Aside0.mk hm16
  clear h hl hl2 hl3 hm16
  go_enter Try.func22, Try.ntmps22
  go_wp2_with (first | (go_at_call 21; go_must (refine (rnum1_calls w0 _ g _ _ _ _ S0.out H16.out HL3.out).mono ?_; rintro e w1 ⟨rfl, ⟨bs, ⟨hg, hb, u, hm, hr⟩, h2, h3⟩, h4⟩; have c0 := blk_cell hm 0; have f0 := blk_frozen hm 0; obtain ⟨A, m, c, rfl⟩ := R_sl hr; have HM := Aside0.mk hm; have HR := Aside0.mk hr; have HB := Aside0.mk hb; have HG := Aside0.mk hg; have H2 := Aside0.mk h2; have H3 := Aside0.mk h3; have T1 := Aside0.mk h4; clear h2 h3 h4 hm hr hb hg S0)) | ((with_reducible refine gate_builtin (b := .append) (xs := #[.tmp 12, .tmp 13]) rfl ?_); at_builtin; go_must (refine apS (w0 := w0) rfl (.tmp 12) (.tmp 13) rfl _ bs s rfl rfl HR.out HB.out ?aL ?_; (case aL => have h1 := HL.out; have h2 := H3.out; rw [List.length_append, num_len] at h2; omega); intro v1 w2 ho hc; obtain ⟨A1, m1, c1, rfl⟩ := R_sl ho; have P1 := Aside0.mk (Wr.put (T := 55) (.inr (.inl rfl)) HG.out HB.out HM.out HR.out ho hc); have HM2 := hc.blk HM.out (fun e => (Kd.R_ne HR.out HM.out ne55) e.symm); have d0 := blk_cell HM2 0; have e0 := blk_frozen HM2 0; clear ho hc HM2)))
  go_end0
  have e1 : tb (tKey s) = Tok.b (.num s.size 1 16) ++ bytesOf s := by unfold tKey; rw [tb_cons, tb_cons, tb_nil, List.append_nil]; rfl
  have e2 : tbad (tKey s) = Tok.bad (.num s.size 1 16) := by unfold tKey; rw [tbad_cons, tbad_cons, tbad_nil]; simp [Tok.bad]
  rw [e1, e2, ← List.append_assoc]
  refine ⟨rfl, ⟨_, P1.out.1, fun e => ?_, ?_⟩, T1.out.then_ P1.out.2⟩
  · rw [H2.out e]
  · have := H3.out
    simp only [List.length_append] at this ⊢
    omega
/-- What is bad already stays so, whatever would be written. -/
theorem RW.stop {w0 W : World} {g : Nat} {B C : List Int} (h : RW w0 W g B true) (hl : B.length ≤ C.length) : RW w0 W g C true := by
  obtain ⟨bs, h1, _, h3⟩ := h
  exact ⟨bs, h1, (fun e => by cases e), by omega⟩
theorem pre_le {α : Type} {hd : Tok} {enc : α → List Tok} {l : List α} (k : Nat) : (tb (pre hd enc l k)).length ≤ (tb (hd :: l.flatMap enc)).length := by
  have e : hd :: l.flatMap enc = pre hd enc l k ++ (l.drop k).flatMap enc := by
    unfold pre
    rw [List.cons_append, ← List.flatMap_append, List.take_append_drop]
  rw [e, tb_append, List.length_append]
  omega
theorem pre_bad {α : Type} {hd : Tok} {enc : α → List Tok} {l : List α} (k : Nat) (h : tbad (pre hd enc l k) = true) : tbad (hd :: l.flatMap enc) = true := by
  have e : hd :: l.flatMap enc = pre hd enc l k ++ (l.drop k).flatMap enc := by
    unfold pre
    rw [List.cons_append, ← List.flatMap_append, List.take_append_drop]
  rw [e, tbad_append, h, Bool.true_or]
set_option maxHeartbeats 2000000 in
theorem rints_calls (w0 W : World) (g : Nat) (B : List Int) (b : Bool) (A : Option Addr) (c : Nat) (l : List Int) (hA : (Kd.int .i64).C w0 A l.length l) (h : RW w0 W g B b) (hl : B.length + (tb (tInts l)).length ≤ 140737488355328) :
    Calls Try.prog 24 #[.pointer (some ⟨g, 0, none⟩), .slice A l.length c] W (RWrote w0 g (B ++ tb (tInts l)) (b || tbad (tInts l)) W) := by
  have ht : tInts l = (.num l.length 1 255 :: l.flatMap (fun v => [word v])) := by unfold tInts; rw [ints_flat]
  rw [ht] at hl ⊢
  have hl1 : B.length + 1 ≤ 140737488355328 := by
    rw [tb_cons, List.length_append, num_len] at hl
    omega
  have hmax : l.length ≤ 9223372036854775807 := hA.2.1
  have hm255 : (255 : Int) < 18446744073709551616 := by decide
  have S0 := Aside0.mk h
  have HL := Aside0.mk hl
  have HL1 := Aside0.mk hl1
  have HA := Aside0.mk hA
  have H255 := Aside0.mk hm255
  clear h hl hl1 hA ht hm255
  go_enter Try.func24, Try.ntmps24
  go_wp2_with (go_at_call 21; go_must (refine (rnum1_calls w0 _ g _ _ _ _ S0.out H255.out HL1.out).mono ?_; rintro e w1 ⟨rfl, h1, h2⟩; have S1 := Aside0.mk h1; have T1 := Aside0.mk h2; clear h1 h2 S0))
  go_loopw [4] (fun v w' => ∃ k : Nat, v = .int .i64 k ∧ Aside0 (k ≤ l.length) ∧ Aside0 (RW w0 w' g (B ++ tb (pre (.num l.length 1 255) (fun v => [word v]) l k)) (b || tbad (pre (.num l.length 1 255) (fun v => [word v]) l k))) ∧ Aside0 (TC w0.heap.size W w')) (fun v _ => l.length - (intOf v).toNat)
  case atStart => exact ⟨0, rfl, ⟨Nat.zero_le _⟩, ⟨by rw [pre_zero, tb_cons, tb_nil, tbad_cons, tbad_nil, List.append_nil, Bool.or_false]; exact S1.out⟩, T1⟩
  case round =>
    clear S1 T1
    obtain ⟨k, rfl, HK, S0, T0⟩ := hrel
    by_cases hlt : k < l.length
    · obtain ⟨b2, hb2⟩ : ∃ b2, b2 = (b || tbad (pre (.num l.length 1 255) (fun v => [word v]) l k)) := ⟨_, rfl⟩
      have HB2 := Aside0.mk hb2
      have S1 : Aside0 (RW w0 wr g (B ++ tb (pre (.num l.length 1 255) (fun v => [word v]) l k)) b2) := ⟨by rw [hb2]; exact S0.out⟩
      clear S0 hb2
      have hcell : wr.cell? ⟨g, 1, none⟩ = some (.bool b2) := by
        obtain ⟨bs, ⟨_, _, u, hm, _⟩, _, _⟩ := S1.out
        exact blk_cell hm 1
      obtain ⟨ad, rfl, hc1⟩ := C_at64 (Kd.C_below HA.out S1.out.bel) k hlt
      cases b2 with
      | true =>
        go_wp2_with fail
        go_end0
        refine ⟨rfl, ?_, T0.out⟩
        have e1 : (b || tbad (.num l.length 1 255 :: l.flatMap (fun v => [word v]))) = true := by
          have h1 := HB2.out
          cases b
          · exact pre_bad k h1.symm
          · rfl
        rw [e1]
        exact S1.out.stop (by rw [List.length_append, List.length_append]; have := pre_le (hd := .num l.length 1 255) (enc := fun v => [word v]) (l := l) k; omega)
      | false =>
        have PL : Aside0 ((tb (pre (.num l.length 1 255) (fun v => [word v]) l k)).length + 4 ≤ (tb (.num l.length 1 255 :: l.flatMap (fun v => [word v]))).length) := ⟨by have h := pre_len (hd := .num l.length 1 255) (enc := fun v => [word v]) hlt; rw [show (tb ((fun v => [word v]) l[k])).length = 4 from word1_len _] at h; exact h⟩
        go_wp2_with (go_at_call 21; go_must (refine (rword_calls w0 _ g _ _ _ S1.out ?n3).mono ?_; (case n3 => have h1 := HL.out; have h2 := PL.out; rw [List.length_append]; omega); rintro e w1 ⟨rfl, h1, h2⟩; have S2 := Aside0.mk h1; have T1 := Aside0.mk (T0.out.then_ h2); clear h1 h2 S1 T0))
        go_roundw
        case rel =>
          refine ⟨k + 1, by go_num, ⟨hlt⟩, ⟨?_⟩, T1⟩
          have := S2.out
          rw [HB2.out] at this
          rw [pre_succ hlt, tb_append, tbad_append, tb_cons, tb_nil, tbad_cons, tbad_nil, List.append_nil, Bool.or_false, ← List.append_assoc, ← Bool.or_assoc]
          exact this
        case measure => simp [intOf]; omega
    · have hk : k = l.length := by have := HK.out; omega
      have HKN := Aside0.mk hk
      clear hk
      go_wp2_with fail
      go_end0
      have := S0.out
      rw [pre_full HKN.out] at this
      exact ⟨rfl, this, T0.out⟩
end Go.Proofs.Ytcpekifbbjnjmaa
