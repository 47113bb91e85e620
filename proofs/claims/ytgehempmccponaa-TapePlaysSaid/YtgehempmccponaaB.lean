/- bytes.Clone copies; (*side).apply. -/
import Derived.Test.YtgehempmccponaaA
set_option linter.unusedVariables false
namespace Go.Proofs.Ytgehempmccponaa
open Go.RowKit Go.Proofs.YtgehempmccponaaW.PrintWords Go.Proofs.YtgehempmccponaaW.PrintLast Go.Proofs.YtgehempmccponaaW.PrintMore
abbrev B8 : Kd Int := Kd.int .u8
theorem inf5 : (Try.prog.info? 5).map (fun i => (i.zero, i.size, i.bytes)) = some (some (.int .u8 0), 1, 1) := by kernel_rfl
theorem eqnil (w : World) (a : Option Addr) (n c n' c' : Nat) : (binOp .eql 27 (.slice a n c) (.slice none n' c')).run Try.prog w = .ok (.bool a.isNone) w := Lib.run_eql_slice_nil w _ _ a n c n' c' Try.underlying27
section
variable {ops : Array Oper} {rest : List Oper} {o : Oper} {a : Act} {Q : Exit → Act → World → Prop}
/-- append(v, ys...), v a row of bytes of the call's own. -/
theorem ap8 {W : World} (base : Nat) (hgd : o.guard = none) (s x : Operand)
    (ho : o.op = .call { callee := .builtin .append, args := #[s, x], argTypes := #[27, 27] })
    (v : Value) (xs ys : List Int) (A : Option Addr) (m c : Nat) (ok : Nat → Prop) (hs : a.eval s = v) (hx : a.eval x = .slice A m c)
    (HO : B8.R 5 W base ok v xs) (HR : B8.C W A m ys) (hfresh : ∀ k, W.heap.size ≤ k → ok k)
    (hbase : base ≤ W.heap.size) (hl : xs.length + m ≤ 140737488355328)
    (h : ∀ v1 w1, B8.R 5 w1 base ok v1 (xs ++ ys) → Ch W w1 (fun k => v.ownBlock = some k) → (v1.ownBlock = v.ownBlock ∨ ∃ b, v1.ownBlock = some b ∧ W.heap.size ≤ b) → wpList Try.prog ops Q rest (a.put o.dst v1) w1) :
    wpList Try.prog ops Q (o :: rest) a W :=
  apR B8 base hgd s x 27 5 (.int .u8 0) 1 ho Try.underlying27 inf5 rfl (by decide) (by omega) v xs ys A m c ok (fun _ => False) hs hx HO HR (fun _ _ h => h) (fun _ hk => hk.elim) hfresh hbase (by omega) h
end
theorem C_none {c : Nat} {xs : List Int} {w : World} (hr : B8.C w none xs.length xs) : xs = [] := by
  rcases xs with _ | ⟨x, xs⟩
  · rfl
  · obtain ⟨_, h⟩ := hr.2.2 (by simp)
    exact absurd h.1 (by simp)
set_option maxHeartbeats 1000000 in
theorem clone_calls (A : Option Addr) (c : Nat) (xs : List Int) (w : World) (hr : B8.C w A xs.length xs) (hl : xs.length ≤ 100000000) :
    Calls Try.prog 20 #[.slice A xs.length c] w fun e w' => ∃ v, e = .returned v ∧ B8.R 5 w' w.heap.size (fun _ => True) v xs ∧ Ch w w' (fun _ => False) := by
  have qT := eqnil
  rcases A with _ | ad
  · have h0 := C_none (c := c) hr
    subst h0
    have HR := Aside0.mk hr
    clear hr
    go_enter Try.func20, Try.ntmps20
    go_wp2
    go_ret
    exact ⟨_, rfl, Kd.R_nil _ _ _ _ _, Ch.refl _ _⟩
  · have HR := Aside0.mk hr
    clear hr
    go_enter Try.func20, Try.ntmps20
    go_wp2_with ((with_reducible refine gate_builtin (b := .append) (xs := #[.tmp 5, .tmp 6]) rfl ?_); at_builtin; refine ap8 w.heap.size rfl (.tmp 5) (.tmp 6) rfl (.slice (some ⟨w.heap.size, 0, none⟩) 0 0) [] xs (some ad) xs.length c (fun _ => True) rfl rfl ?aO ?aR ?aF ?aS ?aL ?_; (case aO => exact R_empty _ _ _ _ _ (Nat.le_refl _) trivial); (case aR => exact Kd.C_below HR.out (below_alloc (Below.refl _ _) _)); (case aF => exact fun _ _ => trivial); (case aS => simp); (case aL => simp; omega); intro v1 w1 ho hg hat; have HO := Aside0.mk ho; have HG := Aside0.mk hg; clear ho hg hat)
    go_ret
    exact ⟨_, rfl, HO.out, ((Ch.refl _ _).alloc _).then_ HG.out (fun k hk => .inr (by simp [Value.ownBlock] at hk; omega))⟩
/-- (*side).apply: the cell that it writes lies in block g. -/
def ApplyTo (g o t : Nat) (cs : Array Value) (ys : List Int) (w : World) (e : Ending) (w' : World) : Prop :=
  e = .returned (.tuple #[]) ∧ ∃ v', w'.heap[g]? = some (.cells (cs.setIfInBounds o v') t (0, 0)) ∧ B8.R 5 w' w.heap.size (fun _ => True) v' ys ∧ Ch w w' (fun k => k = g)
theorem put_put (cs : Array Value) (o : Nat) (a b : Value) : (cs.setIfInBounds o a).setIfInBounds o b = cs.setIfInBounds o b := by simp
theorem cell_put {cs : Array Value} {o t g : Nat} {v v' : Value} {w : World} (h : cs[o]? = some v) (hb : w.heap[g]? = some (.cells (cs.setIfInBounds o v') t (0, 0))) : w.cell? ⟨g, o, none⟩ = some v' := by
  rw [blk_cell hb]
  obtain ⟨hl, _⟩ := Array.getElem?_eq_some_iff.1 h
  simp [hl]
/-- A row that is new: its block is none of the old ones. -/
theorem new_ne {w W : World} {ok : Nat → Prop} {v : Value} {xs : List Int} {g : Nat} (h : B8.R 5 W w.heap.size ok v xs) (hg : g < w.heap.size) : ¬ v.ownBlock = some g := fun e => by
  have := Kd.R_base h g e
  omega
set_option maxHeartbeats 1000000 in
theorem apply_calls (g o t : Nat) (cs : Array Value) (v : Value) (xs : List Int) (A : Option Addr) (c : Nat) (bs ys : List Int) (swap : Bool) (w : World) (base : Nat) (ok : Nat → Prop)
    (hg : w.heap[g]? = some (.cells cs t (0, 0))) (ho : cs[o]? = some v) (ht : 5 ≠ t) (hv : B8.R 5 w base ok v xs) (hA : ∀ w', Ch w w' (fun k => k = g) → B8.C w' A bs.length bs)
    (hl : xs.length ≤ 1000000) (hl2 : bs.length ≤ 1000000) (hy : ys = (if swap then [] else xs) ++ bs) :
    Calls Try.prog 18 #[.pointer (some ⟨g, o, none⟩), .slice A bs.length c, .bool swap] w (ApplyTo g o t cs ys w) := by
  have hcell : w.cell? ⟨g, o, none⟩ = some v := by rw [blk_cell hg, ho]
  have hfr : w.frozen? ⟨g, o, none⟩ = false := blk_frozen hg o
  obtain ⟨B, d, rfl, hd, hC⟩ := R_open hv
  have hgl := blk_lt hg
  cases swap with
  | true =>
    have HY := Aside0.mk hy
    have HA := Aside0.mk hA
    have HG := Aside0.mk hg
    have HO := Aside0.mk ho
    clear hA hg ho hy hv hC hd
    go_enter Try.func18, Try.ntmps18
    go_wp2_with (first | (go_at_call 20; refine (clone_calls none 0 [] _ (Kd.C_nil _ _) (by simp)).mono ?_; rintro e w1 ⟨v1, rfl, ho1, hc1⟩; have H1 := Aside0.mk (show B8.R 5 w1 w.heap.size (fun _ => True) v1 [] from (by simpa using ho1)); have C1 := Aside0.mk (((Ch.refl w (fun k => k = g)).setCell (p := ⟨g, o, none⟩) (.inl rfl) (.slice none 0 0)).then_ hc1 (fun _ h => h.elim)); have G1 := Aside0.mk (hc1.blk (blk_set HG.out o (.slice none 0 0)) (fun h => h)); clear ho1 hc1) | ((with_reducible refine gate_builtin (b := .append) (xs := #[.tmp 15, .tmp 16]) rfl ?_); at_builtin; go_must (refine ap8 w.heap.size rfl (.tmp 15) (.tmp 16) rfl v1 [] bs A bs.length c (fun _ => True) rfl rfl ?aO ?aR ?aF ?aS ?aL ?_; (case aO => exact H1.out); (case aR => exact HA.out _ C1.out); (case aF => exact fun _ _ => trivial); (case aS => exact C1.out.size); (case aL => exact (show ([] : List Int).length + bs.length ≤ _ by rw [List.length_nil]; omega)); intro v2 w2 ho hg hat; obtain ⟨A2, c2, rfl⟩ := Kd.R_slice ho; have H2 := Aside0.mk ho; have C2 := Aside0.mk (C1.out.then_ hg (fun k hk => .inr (Kd.R_base H1.out k hk))); have G2 := Aside0.mk (hg.blk G1.out (new_ne H1.out hgl)); have hc2 := cell_put HO.out G2.out; have hf2 := blk_frozen G2.out o; clear ho hg hat H1 C1)))
    go_end0
    exact ⟨rfl, _, blk_put G2.out o _ (put_put _ _ _ _), by have := H2.out; rw [HY.out]; simpa using Kd.R_set this G2.out (by simpa [Kd.int, Kd.scalar] using ht) o _, C2.out.setCell (.inl rfl) _⟩
  | false =>
    have HY := Aside0.mk hy
    have HA := Aside0.mk hA
    have HG := Aside0.mk hg
    have HO := Aside0.mk ho
    have HC := Aside0.mk hC
    clear hA hg ho hy hv hC hd
    go_enter Try.func18, Try.ntmps18
    go_wp2_with (first | (go_at_call 20; refine (clone_calls B d xs _ HC.out (by omega)).mono ?_; rintro e w1 ⟨v1, rfl, ho1, hc1⟩; have H1 := Aside0.mk ho1; have C1 := Aside0.mk ((Ch.refl w (fun k => k = g)).then_ hc1 (fun _ h => h.elim)); have G1 := Aside0.mk (hc1.blk HG.out (fun h => h)); clear ho1 hc1) | ((with_reducible refine gate_builtin (b := .append) (xs := #[.tmp 15, .tmp 16]) rfl ?_); at_builtin; go_must (refine ap8 w.heap.size rfl (.tmp 15) (.tmp 16) rfl v1 xs bs A bs.length c (fun _ => True) rfl rfl ?aO ?aR ?aF ?aS ?aL ?_; (case aO => exact H1.out); (case aR => exact HA.out _ C1.out); (case aF => exact fun _ _ => trivial); (case aS => exact C1.out.size); (case aL => omega); intro v2 w2 ho hg hat; obtain ⟨A2, c2, rfl⟩ := Kd.R_slice ho; have H2 := Aside0.mk ho; have C2 := Aside0.mk (C1.out.then_ hg (fun k hk => .inr (Kd.R_base H1.out k hk))); have G2 := Aside0.mk (hg.blk G1.out (new_ne H1.out hgl)); have hc2 := (blk_cell G2.out o).trans HO.out; have hf2 := blk_frozen G2.out o; clear ho hg hat H1 C1)))
    go_end0
    exact ⟨rfl, _, blk_set G2.out o _, by have := H2.out; rw [HY.out]; simpa using Kd.R_set this G2.out (by simpa [Kd.int, Kd.scalar] using ht) o _, C2.out.setCell (.inl rfl) _⟩
end Go.Proofs.Ytgehempmccponaa
