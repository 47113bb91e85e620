/- answers. -/
import Derived.Test.YtjlmhppifjoijaaH
import Derived.Lib.SlBytesConst
set_option linter.unusedVariables false
namespace Go.Proofs.Ytjlmhppifjoijaa
open Go.RowKit Go.Proofs.YtjlmhppifjoijaaW.PrintWords Go.Proofs.YtjlmhppifjoijaaW.PrintLast Go.Proofs.YtjlmhppifjoijaaW.PrintMore
theorem flat_get : ∀ (xs : List Cl) (j : Nat) (x : Cl), xs[j]? = some x → ∀ i u, x.cells[i]? = some u → (xs.flatMap Cl.cells)[j * 10 + i]? = some u
  | [], j, x, h, i, u, hu => by simp at h
  | y :: ys, 0, x, h, i, u, hu => by
    simp only [List.getElem?_cons_zero, Option.some.injEq] at h
    subst h
    have hi : i < 10 := by
      have := (List.getElem?_eq_some_iff.1 hu).1
      rwa [cl_len] at this
    rw [List.flatMap_cons, List.getElem?_append_left (by rw [cl_len]; omega)]
    simpa using hu
  | y :: ys, j + 1, x, h, i, u, hu => by
    simp only [List.getElem?_cons_succ] at h
    rw [List.flatMap_cons, List.getElem?_append_right (by rw [cl_len]; omega), cl_len, show (j + 1) * 10 + i - 10 = j * 10 + i by omega]
    exact flat_get ys j x h i u hu
theorem clC_mk {w : World} {g : Nat} (xs : List Cl) (hx : xs.length ≤ 1000) {cs : Array Value} (hb : w.heap[g]? = some (.cells cs 29 (0, 0))) (hc : cs = (xs.flatMap Cl.cells).toArray) : kCl.C w (some ⟨g, 0, none⟩) xs.length xs := by
  subst hc
  refine ⟨rfl, by omega, fun _ => ⟨_, rfl, fun j p hp => ⟨p.cells, rfl, rfl, fun i u hu => ?_⟩⟩⟩
  rw [add_plain, blk_cell hb]
  rw [List.getElem?_toArray]
  exact flat_get xs j p hp i u hu
set_option maxHeartbeats 400000 in
theorem check_nil (w : World) : Calls Try.prog 7 #[.slice none 0 0] w fun e w' => e = .returned (.bool true) ∧ Ch w w' (fun _ => False) := by
  have hmm := @run_makeMap Try.prog
  go_enter Try.func7, Try.ntmps7
  go_wp2_with fail
  refine wp_loop_rounds 1 ?_
  rw [rounds_succ]
  go_wp2_with (go_at_call 9; go_must (refine (sort_calls none 0 0 [] w 0 (fun _ => False) (Kd.R_nil _ _ _ _ _) (by omega)).mono ?_; rintro e w1 ⟨rfl, r1, c1⟩; have C1 := Aside0.mk c1; clear c1 r1))
  refine wp_loop_rounds 1 ?_
  rw [rounds_succ]
  go_wp2_with fail
  go_ret
  exact ⟨rfl, C1.out.alloc _⟩
theorem eqB_self (x : List Int) : eqB x x = true := by simp [eqB]
def sA (g : Nat) : Sl := ⟨some ⟨g, 0, none⟩, 1, 1, [118]⟩
def sN : Sl := ⟨none, 0, 0, []⟩
def aCl (g : Nat) : Cl := ⟨0, 1, ⟨#[107]⟩, sA g, 1, 3, 2, 0, sN, sN⟩
def bCl (g : Nat) : Cl := ⟨0, 2, ⟨#[107]⟩, sN, 2, 5, 4, 0, sA g, sN⟩
def cCl (g : Nat) : Cl := ⟨0, 2, ⟨#[107]⟩, sN, 1, 5, 1, 0, sA g, sN⟩
theorem cell_any {W : World} {g q : Nat} {cs : Array Value} {t : TypeId} {f : Nat × Nat} {v : Value} (hb : W.heap[g]? = some (.cells cs t f)) (hv : cs[q]? = some v) : W.cell? ⟨g, q, none⟩ = some v := by
  simp [World.cell?, hb, hv]
theorem Rd_one {W : World} {g : Nat} {f : Nat × Nat} (hb : W.heap[g]? = some (.cells #[.int .u8 118] 5 f)) : Rd W (sA g) := by
  have h : W.cell? ⟨g, 0, none⟩ = some (.int .u8 118) := cell_any hb rfl
  refine ⟨rfl, Nat.le_refl 1, ⟨rfl, (show 1 ≤ 9223372036854775807 by decide), fun _ => ⟨_, rfl, fun j p hp => ⟨[.int .u8 p], rfl, rfl, fun i u hu => ?_⟩⟩⟩⟩
  have hj : j = 0 := by
    have := (List.getElem?_eq_some_iff.1 hp).1
    simp [sA] at this
    exact this
  subst hj
  have hi : i = 0 := by
    have := (List.getElem?_eq_some_iff.1 hu).1
    simp at this
    exact this
  subst hi
  simp [sA] at hp hu
  subst hp hu
  rw [add_plain]
  exact h
theorem key1 : (⟨#[107]⟩ : ByteArray).size ≤ maxLen := by decide
theorem Rd_nil (W : World) : Rd W sN := ⟨rfl, by decide, ⟨rfl, by decide, fun h => by cases h⟩⟩
theorem alloc_at (W : World) (o : Obj) (k : Nat) (hk : k < W.heap.size) : (W.alloc o).heap[k]? = W.heap[k]? := by
  simp only [World.alloc, Array.getElem?_push, if_neg (Nat.ne_of_lt hk)]
theorem alloc_self (W : World) (o : Obj) : (W.alloc o).heap[W.heap.size]? = some o := by
  simp only [World.alloc, Array.getElem?_push_size]
theorem few_calls (W : World) (B n : Nat) (xs : List Cl) (hB : B = W.heap.size) (cs : Array Value) (hcs : cs = (xs.flatMap Cl.cells).toArray) (hn : n = xs.length) (hl : xs.length ≤ 20) (hF : ∀ x, x ∈ xs → Fit1 W x) :
    Calls Try.prog 7 #[.slice (some ⟨B, 0, none⟩) n n] (W.alloc (.cells cs 29)) fun e w' => e = .returned (.bool (checkF xs)) ∧ Ch W w' (fun _ => False) := by
  subst hB hn
  have c0 := (Ch.refl W (fun _ => False)).alloc (.cells cs 29)
  refine (check_calls W.heap.size xs.length xs.length xs (W.alloc (.cells cs 29)) (clC_mk xs (by omega) (alloc_self W _) hcs) (by omega) (Nat.le_trans (List.length_filter_le _ _) hl) (fun x hx => ?_)).mono ?_
  · have h := hF x (List.mem_filter.1 hx).1
    exact ⟨h.1, h.2.1, h.2.2.1, h.2.2.2.1.Ch c0, h.2.2.2.2.Ch c0⟩
  · rintro e w1 ⟨rfl, c1⟩
    exact ⟨rfl, c0.then_ c1 (fun _ h => h.elim)⟩
theorem conv22 (w : World) (C : Array Value) (B n c : Nat) (hB : B = w.heap.size) : (convert 22 22 (.slice (some ⟨B, 0, none⟩) n c)).run Try.prog (w.alloc (.cells C 5)) = .ok (.slice (some ⟨B, 0, none⟩) n c) (w.alloc (.cells C 5 (C.size, C.size + 1))) := by
  subst hB
  exact Lib.run_convert_bytes_const (P := Try.prog) w 22 5 C n c Try.underlying22 Try.underlying5
theorem ans1 (g h : Nat) : checkF [aCl g, bCl h] = true := by
  have e : ordF [aCl g, bCl h] = [aCl g, bCl h] := rfl
  unfold checkF
  rw [e]
  simp [runF, goodT, okF, doF, getF, Wd.put, aCl, bCl, sA, eqB_self]
theorem ans2 (g h : Nat) : checkF [aCl g, cCl h] = false := by
  have e : ordF [aCl g, cCl h] = [cCl h, aCl g] := rfl
  unfold checkF
  rw [e]
  simp [runF, goodT, okF, getF, aCl, cCl, sA]
set_option maxHeartbeats 1000000 in
theorem answers_calls (w : World) : Calls Try.prog 6 #[] w fun e w' => e = .returned (.bool true) ∧ Ch w w' (fun _ => False) := by
  have kc := conv22
  go_enter Try.func6, Try.ntmps6
  go_wp2_with fail
  refine (few_calls _ _ _ [aCl w.heap.size, bCl (w.heap.size + 1 + 1)] ?hB _ ?hcs rfl ?hl ?hF).mono ?_
  case hB => simp
  case hcs => rfl
  case hl => exact (show 2 ≤ 20 by decide)
  case hF =>
    intro x hx
    simp only [List.mem_cons, List.not_mem_nil, or_false] at hx
    rcases hx with rfl | rfl
    · exact ⟨Or.inl rfl, Or.inl rfl, key1, Rd_one (f := (1, 2)) (by (simp only [World.alloc, Array.getElem?_push, Array.size_push]; (repeat rw [if_neg (by omega)]); first | rfl | rw [if_pos rfl])), Rd_nil _⟩
    · exact ⟨Or.inr rfl, Or.inl rfl, key1, Rd_nil _, Rd_one (f := (1, 2)) (by (simp only [World.alloc, Array.getElem?_push, Array.size_push]; (repeat rw [if_neg (by omega)]); first | rfl | rw [if_pos rfl]))⟩
  rintro e w1 ⟨rfl, c1⟩
  rw [ans1]
  have h0 := c1.blk (g := w.heap.size) (o := .cells #[.int .u8 118] 5 (1, 2)) (by (simp only [World.alloc, Array.getElem?_push, Array.size_push]; (repeat rw [if_neg (by omega)]); first | rfl | rw [if_pos rfl])) (fun h => h)
  have h1 := c1.blk (g := w.heap.size + 1) (o := .cells (aCl w.heap.size).cells.toArray 29) (by (simp only [World.alloc, Array.getElem?_push, Array.size_push]; (repeat rw [if_neg (by omega)]); first | rfl | rw [if_pos rfl])) (fun h => h)
  have h2 := c1.blk (g := w.heap.size + 1 + 1) (o := .cells #[.int .u8 118] 5 (1, 2)) (by (simp only [World.alloc, Array.getElem?_push, Array.size_push]; (repeat rw [if_neg (by omega)]); first | rfl | rw [if_pos rfl])) (fun h => h)
  have h4 := c1.blk (g := w.heap.size + 1 + 1 + 1 + 1) (o := .cells (cCl (w.heap.size + 1 + 1)).cells.toArray 29) (by (simp only [World.alloc, Array.getElem?_push, Array.size_push]; (repeat rw [if_neg (by omega)]); first | rfl | rw [if_pos rfl])) (fun h => h)
  have a0 : w1.cell? ⟨w.heap.size + 1, 0, none⟩ = some (.int .i64 0) := cell_any h1 rfl
  have a1 : w1.cell? ⟨w.heap.size + 1, 1, none⟩ = some (.int .i64 1) := cell_any h1 rfl
  have a2 : w1.cell? ⟨w.heap.size + 1, 2, none⟩ = some (.string ⟨#[107]⟩) := cell_any h1 rfl
  have a3 : w1.cell? ⟨w.heap.size + 1, 3, none⟩ = some (.slice (some ⟨w.heap.size, 0, none⟩) 1 1) := cell_any h1 rfl
  have a4 : w1.cell? ⟨w.heap.size + 1, 4, none⟩ = some (.int .i64 1) := cell_any h1 rfl
  have a5 : w1.cell? ⟨w.heap.size + 1, 5, none⟩ = some (.int .i64 3) := cell_any h1 rfl
  have a6 : w1.cell? ⟨w.heap.size + 1, 6, none⟩ = some (.int .i64 2) := cell_any h1 rfl
  have a7 : w1.cell? ⟨w.heap.size + 1, 7, none⟩ = some (.int .i64 0) := cell_any h1 rfl
  have a8 : w1.cell? ⟨w.heap.size + 1, 8, none⟩ = some (.slice none 0 0) := cell_any h1 rfl
  have a9 : w1.cell? ⟨w.heap.size + 1, 9, none⟩ = some (.slice none 0 0) := cell_any h1 rfl
  have c0' : w1.cell? ⟨w.heap.size + 1 + 1 + 1 + 1, 0, none⟩ = some (.int .i64 0) := cell_any h4 rfl
  have c1' : w1.cell? ⟨w.heap.size + 1 + 1 + 1 + 1, 1, none⟩ = some (.int .i64 2) := cell_any h4 rfl
  have c2' : w1.cell? ⟨w.heap.size + 1 + 1 + 1 + 1, 2, none⟩ = some (.string ⟨#[107]⟩) := cell_any h4 rfl
  have c3' : w1.cell? ⟨w.heap.size + 1 + 1 + 1 + 1, 3, none⟩ = some (.slice none 0 0) := cell_any h4 rfl
  have c4' : w1.cell? ⟨w.heap.size + 1 + 1 + 1 + 1, 4, none⟩ = some (.int .i64 1) := cell_any h4 rfl
  have c5' : w1.cell? ⟨w.heap.size + 1 + 1 + 1 + 1, 5, none⟩ = some (.int .i64 5) := cell_any h4 rfl
  have c6' : w1.cell? ⟨w.heap.size + 1 + 1 + 1 + 1, 6, none⟩ = some (.int .i64 1) := cell_any h4 rfl
  have c7' : w1.cell? ⟨w.heap.size + 1 + 1 + 1 + 1, 7, none⟩ = some (.int .i64 0) := cell_any h4 rfl
  have c8' : w1.cell? ⟨w.heap.size + 1 + 1 + 1 + 1, 8, none⟩ = some (.slice (some ⟨w.heap.size + 1 + 1, 0, none⟩) 1 1) := cell_any h4 rfl
  have c9' : w1.cell? ⟨w.heap.size + 1 + 1 + 1 + 1, 9, none⟩ = some (.slice none 0 0) := cell_any h4 rfl
  have C1 : Aside0 (Ch w w1 (fun _ => False)) := ⟨((((((Ch.refl w (fun _ => False)).alloc _).alloc _).alloc _).alloc _).alloc _).then_ c1 (fun _ h => h.elim)⟩
  have R0 := Aside0.mk (Rd_one h0)
  have R2 := Aside0.mk (Rd_one h2)
  clear h0 h1 h2 h4 c1
  go_wp2_with fail
  refine (few_calls w1 _ _ [aCl w.heap.size, cCl (w.heap.size + 1 + 1)] ?hB _ ?hcs rfl ?hl ?hF).mono ?_
  case hB => rfl
  case hcs => rfl
  case hl => exact (show 2 ≤ 20 by decide)
  case hF =>
    intro x hx
    simp only [List.mem_cons, List.not_mem_nil, or_false] at hx
    rcases hx with rfl | rfl
    · exact ⟨Or.inl rfl, Or.inl rfl, key1, R0.out, Rd_nil _⟩
    · exact ⟨Or.inr rfl, Or.inl rfl, key1, Rd_nil _, R2.out⟩
  rintro e w2 ⟨rfl, c2⟩
  rw [ans2]
  have C2 := Aside0.mk (C1.out.then_ c2 (fun _ h => h.elim))
  clear c2
  go_wp2_with fail
  go_ret
  exact ⟨rfl, C2.out⟩
end Go.Proofs.Ytjlmhppifjoijaa
