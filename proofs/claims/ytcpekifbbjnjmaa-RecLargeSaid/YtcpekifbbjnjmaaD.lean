/- (*writer).key, ints, stripes, object. -/
import Derived.Test.YtcpekifbbjnjmaaC
set_option linter.unusedVariables false
namespace Go.Proofs.Ytcpekifbbjnjmaa
open Go.RowKit Go.Proofs.YtcpekifbbjnjmaaW.PrintWords Go.Proofs.YtcpekifbbjnjmaaW.PrintLast Go.Proofs.YtcpekifbbjnjmaaW.PrintMore Go.Proofs.Ytcpekifbbjnjmaa.PRecBack
theorem inf5 : (Try.prog.info? 5).map (fun i => (i.zero, i.size, i.bytes)) = some (some (.int .u8 0), 1, 1) := by kernel_rfl
section
variable {ops : Array Oper} {rest : List Oper} {o : Oper} {a : Act} {Q : Exit → Act → World → Prop}
/-- append(v, s...), v a row of bytes of the call's own, s a string. -/
theorem apS {w0 W : World} (hgd : o.guard = none) (s x : Operand) (ho : o.op = .call { callee := .builtin .append, args := #[s, x], argTypes := #[29, 9] })
    (v : Value) (xs : List Int) (y : ByteArray) (hs : a.eval s = v) (hx : a.eval x = .string y)
    (HO : B8.R 5 W w0.heap.size (fun _ => True) v xs) (HB : Below w0.heap.size w0 W) (hl : xs.length + y.size ≤ 140737488355328)
    (h : ∀ v1 w1, B8.R 5 w1 w0.heap.size (fun _ => True) v1 (xs ++ bytesOf y) → Ch W w1 (fun k => v.ownBlock = some k) → wpList Try.prog ops Q rest (a.put o.dst v1) w1) :
    wpList Try.prog ops Q (o :: rest) a W :=
  print_append_str w0.heap.size hgd s x 29 9 5 ho Try.underlying29 Try.underlying9 inf5 v xs y hs hx (Kd.own_of_R HO) HB HB.size hl fun v1 w1 hown _ hg =>
    h v1 w1 (Kd.R_of_own (enc := Value.int .u8) hown (fun _ _ => trivial)) (Ch.of_grown hg)
end
theorem num1_calls (w0 W : World) (g : Nat) (bs : List Int) (bad : Bool) (v : Int) (most : Int) (h : Wr 47 w0 W g bs bad) (hl : bs.length + 1 ≤ 140737488355328) :
    Calls Try.prog 16 #[.pointer (some ⟨g, 0, none⟩), .int .i64 v, .int .i64 1, .int .i64 most] W (Wrote 47 w0 g (bs ++ Tok.b (.num v 1 most)) (bad || Tok.bad (.num v 1 most)) W) :=
  num_calls w0 W g bs bad v 1 1 most h (by simp) rfl hl
theorem num2_calls (w0 W : World) (g : Nat) (bs : List Int) (bad : Bool) (v : Int) (most : Int) (h : Wr 47 w0 W g bs bad) (hl : bs.length + 2 ≤ 140737488355328) :
    Calls Try.prog 16 #[.pointer (some ⟨g, 0, none⟩), .int .i64 v, .int .i64 2, .int .i64 most] W (Wrote 47 w0 g (bs ++ Tok.b (.num v 2 most)) (bad || Tok.bad (.num v 2 most)) W) :=
  num_calls w0 W g bs bad v 2 2 most h (by simp) rfl hl
theorem word_calls (w0 W : World) (g : Nat) (bs : List Int) (bad : Bool) (v : Int) (h : Wr 47 w0 W g bs bad) (hl : bs.length + 4 ≤ 140737488355328) :
    Calls Try.prog 16 #[.pointer (some ⟨g, 0, none⟩), .int .i64 v, .int .i64 4, .int .i64 1073741824] W (Wrote 47 w0 g (bs ++ (word v).b) (bad || (word v).bad) W) :=
  num_calls w0 W g bs bad v 4 4 1073741824 h (by simp) rfl hl
theorem num_len (v : Int) (n : Nat) (m : Int) : (Tok.b (.num v n m)).length = n := be_length _ _
theorem word_len (v : Int) : (word v).b.length = 4 := be_length _ _
theorem raw_len (s : ByteArray) : (Tok.b (.raw (bytesOf s))).length = s.size := bytesOf_length s
theorem R_sl {w : World} {base : Nat} {ok : Nat → Prop} {v : Value} {xs : List Int} (h : B8.R 5 w base ok v xs) : ∃ A m c, v = .slice A m c := by
  obtain ⟨A, c, e⟩ := Kd.R_slice h
  exact ⟨A, _, c, e⟩
theorem word1_len (v : Int) : (tb [word v]).length = 4 := by rw [tb_cons, tb_nil, List.append_nil, word_len]
/-- The first k of a list, written. -/
def pre {α : Type} (hd : Tok) (enc : α → List Tok) (l : List α) (k : Nat) : List Tok := hd :: (l.take k).flatMap enc
section
variable {α : Type} {hd : Tok} {enc : α → List Tok} {l : List α} {k : Nat}
theorem pre_zero : pre hd enc l 0 = [hd] := by simp [pre]
theorem pre_succ (h : k < l.length) : pre hd enc l (k + 1) = pre hd enc l k ++ enc l[k] := by
  unfold pre
  rw [List.take_succ_eq_append_getElem h, List.flatMap_append]
  simp
theorem pre_full (h : k = l.length) : pre hd enc l k = hd :: l.flatMap enc := by
  subst h
  simp [pre]
theorem pre_len (h : k < l.length) : (tb (pre hd enc l k)).length + (tb (enc l[k])).length ≤ (tb (hd :: l.flatMap enc)).length := by
  have e : tb (hd :: l.flatMap enc) = tb (pre hd enc l (k + 1)) ++ tb ((l.drop (k + 1)).flatMap enc) := by
    rw [← tb_append]
    congr 1
    unfold pre
    rw [List.cons_append, ← List.flatMap_append, List.take_append_drop]
  rw [e, pre_succ h, tb_append, List.length_append, List.length_append]
  omega
end
theorem C_at64 {w : World} {A : Option Addr} {n : Nat} {xs : List Int} (h : (Kd.int .i64).C w A n xs) (k : Nat) (hk : k < xs.length) : ∃ ad, A = some ad ∧ w.cell? (ad.add k) = some (.int .i64 xs[k]) := by
  have hn : xs.length = n := h.1
  obtain ⟨ad, c, e, _, hK, hc⟩ := Kd.C_get h (0 : Int) (k : Int) (by omega) (by omega)
  obtain rfl : c = [_] := hK
  refine ⟨ad, e, ?_⟩
  have := hc 0 _ rfl
  simpa [Kd.int, Kd.scalar, hk] using this
set_option maxHeartbeats 1000000 in
theorem key_calls (w0 W : World) (g : Nat) (bs : List Int) (bad : Bool) (s : ByteArray) (h : Wr 47 w0 W g bs bad) (hl : bs.length + (tb (tKey s)).length ≤ 140737488355328) :
    Calls Try.prog 17 #[.pointer (some ⟨g, 0, none⟩), .string s] W (Wrote 47 w0 g (bs ++ tb (tKey s)) (bad || tbad (tKey s)) W) := by
  have hl2 : bs.length + 1 + s.size ≤ 140737488355328 := by
    unfold tKey at hl
    simp only [tb_cons, tb_nil, List.append_nil, List.length_append, num_len, raw_len] at hl
    omega
  have S0 := Aside0.mk h
  have HL := Aside0.mk hl2
  clear h hl hl2
  go_enter Try.func17, Try.ntmps17
  go_wp2_with (first | (go_at_call 16; go_must (refine (num1_calls w0 _ g _ _ _ _ S0.out ?n3).mono ?_; (case n3 => have := HL.out; omega); rintro e w1 ⟨rfl, h1, h2⟩; obtain ⟨hg, hb, u, hm, hr⟩ := h1; have c0 := blk_cell hm 0; have f0 := blk_frozen hm 0; obtain ⟨A, m, c, rfl⟩ := R_sl hr; have HM := Aside0.mk hm; have HR := Aside0.mk hr; have HB := Aside0.mk hb; have HG := Aside0.mk hg; have T1 := Aside0.mk h2; clear h2 hm hr hb hg S0)) | ((with_reducible refine gate_builtin (b := .append) (xs := #[.tmp 12, .tmp 13]) rfl ?_); at_builtin; go_must (refine apS (w0 := w0) rfl (.tmp 12) (.tmp 13) rfl _ _ s rfl rfl HR.out HB.out ?aL ?_; (case aL => have := HL.out; rw [List.length_append, num_len]; omega); intro v1 w2 ho hc; obtain ⟨A1, m1, c1, rfl⟩ := R_sl ho; have P1 := Aside0.mk (Wr.put (T := 47) (.inl rfl) HG.out HB.out HM.out HR.out ho hc); have HM2 := hc.blk HM.out (fun e => (Kd.R_ne HR.out HM.out (by decide)) e.symm); have d0 := blk_cell HM2 0; have e0 := blk_frozen HM2 0; clear ho hc HM2)))
  go_end0
  refine ⟨rfl, ?_, T1.out.then_ P1.out.2⟩
  have := P1.out.1
  unfold tKey
  simp only [tb_cons, tb_nil, tbad_cons, tbad_nil, List.append_nil, Bool.or_false]
  rw [show Tok.bad (.raw (bytesOf s)) = false from rfl, Bool.or_false, ← List.append_assoc]
  exact this
set_option maxHeartbeats 1000000 in
theorem ints_calls (w0 W : World) (g : Nat) (bs : List Int) (bad : Bool) (A : Option Addr) (c : Nat) (l : List Int) (hA : (Kd.int .i64).C w0 A l.length l) (h : Wr 47 w0 W g bs bad) (hl : bs.length + (tb (tInts l)).length ≤ 140737488355328) :
    Calls Try.prog 20 #[.pointer (some ⟨g, 0, none⟩), .slice A l.length c] W (Wrote 47 w0 g (bs ++ tb (tInts l)) (bad || tbad (tInts l)) W) := by
  have ht : tInts l = (.num l.length 1 255 :: l.flatMap (fun v => [word v])) := by unfold tInts; rw [ints_flat]
  rw [ht] at hl ⊢
  have hl1 : bs.length + 1 ≤ 140737488355328 := by
    rw [tb_cons, List.length_append, num_len] at hl
    omega
  have hmax : l.length ≤ 9223372036854775807 := hA.2.1
  have S0 := Aside0.mk h
  have HL := Aside0.mk hl
  have HL1 := Aside0.mk hl1
  have HA := Aside0.mk hA
  clear h hl hl1 hA ht
  go_enter Try.func20, Try.ntmps20
  go_wp2_with (go_at_call 16; go_must (refine (num1_calls w0 _ g _ _ _ _ S0.out HL1.out).mono ?_; rintro e w1 ⟨rfl, h1, h2⟩; have S1 := Aside0.mk h1; have T1 := Aside0.mk h2; clear h1 h2 S0))
  go_loopw [5, 12] (fun _ v w' => ∃ k : Nat, v = .int .i64 k ∧ Aside0 (k ≤ l.length) ∧ Aside0 (Wr 47 w0 w' g (bs ++ tb (pre (.num l.length 1 255) (fun v => [word v]) l k)) (bad || tbad (pre (.num l.length 1 255) (fun v => [word v]) l k))) ∧ Aside0 (TC w0.heap.size W w')) (fun _ v _ => l.length - (intOf v).toNat)
  case atStart => exact ⟨0, rfl, ⟨Nat.zero_le _⟩, ⟨by rw [pre_zero, tb_cons, tb_nil, tbad_cons, tbad_nil, List.append_nil, Bool.or_false]; exact S1.out⟩, T1⟩
  case round =>
    clear S1 T1
    obtain ⟨k, rfl, HK, S0, T0⟩ := hrel
    by_cases hlt : k < l.length
    · obtain ⟨ad, rfl, hc1⟩ := C_at64 (Kd.C_below HA.out S0.out.bel) k hlt
      have PL : Aside0 ((tb (pre (.num l.length 1 255) (fun v => [word v]) l k)).length + 4 ≤ (tb (.num l.length 1 255 :: l.flatMap (fun v => [word v]))).length) := ⟨by have h := pre_len (hd := .num l.length 1 255) (enc := fun v => [word v]) hlt; rw [show (tb ((fun v => [word v]) l[k])).length = 4 from word1_len _] at h; exact h⟩
      go_wp2_with (go_at_call 16; go_must (refine (word_calls w0 _ g _ _ _ S0.out ?n3).mono ?_; (case n3 => have h1 := HL.out; have h2 := PL.out; rw [List.length_append]; omega); rintro e w1 ⟨rfl, h1, h2⟩; have S1 := Aside0.mk h1; have T1 := Aside0.mk (T0.out.then_ h2); clear h1 h2 S0 T0))
      go_roundw
      case rel =>
        refine ⟨k + 1, by go_num, ⟨hlt⟩, ⟨?_⟩, T1⟩
        have := S1.out
        rw [pre_succ hlt, tb_append, tbad_append, tb_cons, tb_nil, tbad_cons, tbad_nil, List.append_nil, Bool.or_false, ← List.append_assoc, ← Bool.or_assoc]
        exact this
      case measure => simp [intOf]; omega
    · have hk : k = l.length := by have := HK.out; omega
      have HKN := Aside0.mk hk
      clear hk
      go_wp2_with fail
      go_end0
      have := S0.out
      rw [pre_full HKN.out] at this
      exact ⟨rfl, this, T0.out⟩
end Go.Proofs.Ytcpekifbbjnjmaa
