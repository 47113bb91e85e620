/- LinearStale. -/
import Derived.Test.YtjlmhppifjoijaaS
set_option linter.unusedVariables false
set_option linter.unusedSimpArgs false
namespace Go.Proofs.Ytjlmhppifjoijaa
open Go.RowKit Go.Proofs.YtjlmhppifjoijaaW.PrintWords Go.Proofs.YtjlmhppifjoijaaW.PrintLast Go.Proofs.YtjlmhppifjoijaaW.PrintMore
def Byt (bs : List Int) : Prop := ∀ x ∈ bs, 0 ≤ x ∧ x < 256
theorem strOf_inj {a b : List Int} (ha : Byt a) (hb : Byt b) (h : (strOfNums a).toList = (strOfNums b).toList) : a = b := by
  have e : ∀ l : List Int, Byt l → (strOfNums l).toList.map (fun x : UInt8 => (x.toNat : Int)) = l := fun l hl => by
    unfold strOfNums
    have h1 : (ByteArray.mk (l.map fun n => UInt8.ofNat n.toNat).toArray).toList = l.map fun n => UInt8.ofNat n.toNat := by
      rw [ByteArray.toList_eq]
    rw [h1, List.map_map]
    conv => rhs; rw [← List.map_id l]
    apply List.map_congr_left
    intro x hx
    obtain ⟨h0, h1⟩ := hl x hx
    simp
    omega
  rw [← e a ha, ← e b hb, h]
theorem eqB_ne {a b : List Int} (ha : Byt a) (hb : Byt b) (h : a ≠ b) : eqB a b = false := by
  unfold eqB
  rw [beq_eq_false_iff_ne]
  exact fun e => h (strOf_inj ha hb e)
def xC (s : Sl) : Cl := ⟨0, 1, ⟨#[107]⟩, s, 1, 2, 2, 0, sN, sN⟩
def yC (s : Sl) : Cl := ⟨0, 1, ⟨#[107]⟩, s, 3, 4, 4, 0, sN, sN⟩
def zC (s : Sl) (z : Int) : Cl := ⟨0, 2, ⟨#[107]⟩, sN, z + 5, z + 5 + 1, z + 5, 0, s, sN⟩
def vC (s : Sl) (z : Int) : Cl := ⟨0, 2, ⟨#[107]⟩, sN, 2, z + 5 + 1, 3, 0, s, sN⟩
theorem ord_z (s u v : Sl) (z : Int) (hz : 0 ≤ z) : ordF [xC s, yC u, zC v z] = [xC s, yC u, zC v z] := by
  have h : ¬ z + 5 < 4 := by omega
  have h2 : 0 < z + 5 := by omega
  simp [ordF, live, insF, sink, xC, yC, zC, h, h2]
theorem ord_v (s u v : Sl) (z : Int) (hz : 0 ≤ z) : ordF [xC s, yC u, vC v z] = [xC s, vC v z, yC u] := by
  simp [ordF, live, insF, sink, xC, yC, vC]
theorem stale1 (sa sb : Sl) (z : Int) (hz : 0 ≤ z) (h : eqB sb.b sa.b = false) : checkF [xC sa, yC sb, zC sa z] = false := by
  unfold checkF
  rw [ord_z _ _ _ _ hz]
  have h1 : ¬ z + 5 + 1 = 0 := by omega
  simp [runF, goodT, okF, doF, getF, Wd.put, xC, yC, zC, h, h1]
theorem stale2 (sa sb : Sl) (z : Int) (hz : 0 ≤ z) : checkF [xC sa, yC sb, zC sb z] = true := by
  unfold checkF
  rw [ord_z _ _ _ _ hz]
  have h1 : ¬ z + 5 + 1 = 0 := by omega
  simp [runF, goodT, okF, doF, getF, Wd.put, xC, yC, zC, eqB_self, h1]
  exact Or.inr (decide_eq_false (by omega))
theorem stale3 (sa sb : Sl) (z : Int) (hz : 0 ≤ z) : checkF [xC sa, yC sb, vC sa z] = true := by
  unfold checkF
  rw [ord_v _ _ _ _ hz]
  have h1 : ¬ z + 5 + 1 = 0 := by omega
  simp [runF, goodT, okF, doF, getF, Wd.put, xC, yC, vC, eqB_self, h1]
  exact Or.inr (decide_eq_false (by omega))
theorem fit_put {w : World} {s : Sl} (h : Rd w s) : Fit1 w (xC s) ∧ Fit1 w (yC s) := ⟨⟨Or.inl rfl, Or.inl rfl, key1, h, Rd_nil _⟩, ⟨Or.inl rfl, Or.inl rfl, key1, h, Rd_nil _⟩⟩
theorem fit_get {w : World} {s : Sl} (z : Int) (h : Rd w s) : Fit1 w (zC s z) ∧ Fit1 w (vC s z) := ⟨⟨Or.inr rfl, Or.inl rfl, key1, Rd_nil _, h⟩, ⟨Or.inr rfl, Or.inl rfl, key1, Rd_nil _, h⟩⟩
theorem fit3 {w : World} {x y z : Cl} (hx : Fit1 w x) (hy : Fit1 w y) (hz : Fit1 w z) : ∀ u, u ∈ [x, y, z] → Fit1 w u := by
  intro u hu
  simp only [List.mem_cons, List.not_mem_nil, or_false] at hu
  rcases hu with rfl | rfl | rfl
  · exact hx
  · exact hy
  · exact hz
set_option maxHeartbeats 4000000 in
theorem stale_calls (A B : Option Addr) (n m c d : Nat) (xs ys : List Int) (z : Int) (w : World) (ha : Rd w ⟨A, n, c, xs⟩) (hb : Rd w ⟨B, m, d, ys⟩) (ba : Byt xs) (bb : Byt ys) (hz0 : 0 ≤ z) (hz1 : z < 256) :
    Calls Try.prog 5 #[.slice A n c, .slice B m d, .int .u8 z] w fun e w' => e = .returned (.bool true) ∧ Ch w w' (fun _ => False) := by
  obtain ⟨sa, hsa⟩ : ∃ s : Sl, s = ⟨A, n, c, xs⟩ := ⟨_, rfl⟩
  obtain ⟨sb, hsb⟩ : ∃ s : Sl, s = ⟨B, m, d, ys⟩ := ⟨_, rfl⟩
  have HAr := Aside0.mk ha
  have HBr := Aside0.mk hb
  have KS := Aside0.mk (same_calls ⟨A, n, c, xs⟩ ⟨B, m, d, ys⟩ w ha hb)
  simp only at KS
  clear ha hb
  have armA := fun (W : World) (h : Ch w W (fun _ => False)) => answers_calls W
  by_cases hab : xs = ys
  · rw [decide_eq_true hab] at KS
    go_enter Try.func5, Try.ntmps5
    go_wp2_with (first | (go_at_call 8; go_must (refine KS.out.mono ?_; rintro e w1 ⟨rfl, c1⟩; have C1 := Aside0.mk c1; clear c1)) | (go_at_call 6; go_must (refine (answers_calls w1).mono ?_; rintro e w2 ⟨rfl, c2⟩; have C2 := Aside0.mk (C1.out.then_ c2 (fun _ h => h.elim)); clear c2)))
    go_ret
    exact ⟨rfl, C2.out⟩
  · rw [decide_eq_false hab] at KS
    by_cases hn : 100 < n
    · have hd : decide ((100 : Int) < (n : Int)) = true := decide_eq_true (by omega)
      go_enter Try.func5, Try.ntmps5
      go_wp2_with (first | (go_at_call 8; go_must (refine KS.out.mono ?_; rintro e w1 ⟨rfl, c1⟩; have C1 := Aside0.mk c1; clear c1)) | (go_at_call 6; go_must (refine (answers_calls w1).mono ?_; rintro e w2 ⟨rfl, c2⟩; have C2 := Aside0.mk (C1.out.then_ c2 (fun _ h => h.elim)); clear c2)))
      go_ret
      exact ⟨rfl, C2.out⟩
    · have hd : decide ((100 : Int) < (n : Int)) = false := decide_eq_false (by omega)
      by_cases hm : 100 < m
      · have hd2 : decide ((100 : Int) < (m : Int)) = true := decide_eq_true (by omega)
        go_enter Try.func5, Try.ntmps5
        go_wp2_with (first | (go_at_call 8; go_must (refine KS.out.mono ?_; rintro e w1 ⟨rfl, c1⟩; have C1 := Aside0.mk c1; clear c1)) | (go_at_call 6; go_must (refine (answers_calls w1).mono ?_; rintro e w2 ⟨rfl, c2⟩; have C2 := Aside0.mk (C1.out.then_ c2 (fun _ h => h.elim)); clear c2)))
        go_ret
        exact ⟨rfl, C2.out⟩
      · have hd2 : decide ((100 : Int) < (m : Int)) = false := decide_eq_false (by omega)
        have HE := Aside0.mk (eqB_ne bb ba (fun e => hab e.symm))
        have w1z : IntKind.i64.wrap z = z := IntWalk.i64_in _ (by omega)
        have w2z : IntKind.i64.wrap (z + 5) = z + 5 := IntWalk.i64_in _ (by omega)
        have w3z : IntKind.i64.wrap (z + 5 + 1) = z + 5 + 1 := IntWalk.i64_in _ (by omega)
        go_enter Try.func5, Try.ntmps5
        go_wp2_with (go_at_call 8; go_must (refine KS.out.mono ?_; rintro e w1 ⟨rfl, c1⟩; have C1 := Aside0.mk c1; clear c1))
        refine (answers_calls _).mono ?_
        rintro e w2 ⟨rfl, c2⟩
        have Hx := Aside0.mk (c2.blk (g := w1.heap.size) (o := .cells (xC ⟨A, n, c, xs⟩).cells.toArray 29) (by (simp only [World.alloc, Array.getElem?_push, Array.size_push]; (repeat rw [if_neg (by omega)]); first | rfl | rw [if_pos rfl])) (fun h => h))
        have Hy := Aside0.mk (c2.blk (g := w1.heap.size + 1) (o := .cells (yC ⟨B, m, d, ys⟩).cells.toArray 29) (by (simp only [World.alloc, Array.getElem?_push, Array.size_push]; (repeat rw [if_neg (by omega)]); first | rfl | rw [if_pos rfl])) (fun h => h))
        have Hz := Aside0.mk (c2.blk (g := w1.heap.size + 1 + 1) (o := .cells (zC ⟨A, n, c, xs⟩ z).cells.toArray 29) (by (simp only [World.alloc, Array.getElem?_push, Array.size_push]; (repeat rw [if_neg (by omega)]); first | rfl | rw [if_pos rfl])) (fun h => h))
        have Hw := Aside0.mk (c2.blk (g := w1.heap.size + 1 + 1 + 1) (o := .cells (zC ⟨B, m, d, ys⟩ z).cells.toArray 29) (by (simp only [World.alloc, Array.getElem?_push, Array.size_push]; (repeat rw [if_neg (by omega)]); first | rfl | rw [if_pos rfl])) (fun h => h))
        have Hv := Aside0.mk (c2.blk (g := w1.heap.size + 1 + 1 + 1 + 1) (o := .cells (vC ⟨A, n, c, xs⟩ z).cells.toArray 29) (by (simp only [World.alloc, Array.getElem?_push, Array.size_push]; (repeat rw [if_neg (by omega)]); first | rfl | rw [if_pos rfl])) (fun h => h))
        have Cw2 : Aside0 (Ch w w2 (fun _ => False)) := ⟨(((((C1.out.alloc _).alloc _).alloc _).alloc _).alloc _).then_ c2 (fun _ h => h.elim)⟩
        clear c2
        have RAw2 := Aside0.mk (HAr.out.Ch Cw2.out)
        have RBw2 := Aside0.mk (HBr.out.Ch Cw2.out)
        have fx0 : w2.cell? ⟨w1.heap.size, 0, none⟩ = some (.int .i64 0) := cell_any Hx.out rfl
        have fx1 : w2.cell? ⟨w1.heap.size, 1, none⟩ = some (.int .i64 1) := cell_any Hx.out rfl
        have fx2 : w2.cell? ⟨w1.heap.size, 2, none⟩ = some (.string ⟨#[107]⟩) := cell_any Hx.out rfl
        have fx3 : w2.cell? ⟨w1.heap.size, 3, none⟩ = some (.slice A n c) := cell_any Hx.out rfl
        have fx4 : w2.cell? ⟨w1.heap.size, 4, none⟩ = some (.int .i64 1) := cell_any Hx.out rfl
        have fx5 : w2.cell? ⟨w1.heap.size, 5, none⟩ = some (.int .i64 2) := cell_any Hx.out rfl
        have fx6 : w2.cell? ⟨w1.heap.size, 6, none⟩ = some (.int .i64 2) := cell_any Hx.out rfl
        have fx7 : w2.cell? ⟨w1.heap.size, 7, none⟩ = some (.int .i64 0) := cell_any Hx.out rfl
        have fx8 : w2.cell? ⟨w1.heap.size, 8, none⟩ = some (.slice none 0 0) := cell_any Hx.out rfl
        have fx9 : w2.cell? ⟨w1.heap.size, 9, none⟩ = some (.slice none 0 0) := cell_any Hx.out rfl
        have fy0 : w2.cell? ⟨w1.heap.size + 1, 0, none⟩ = some (.int .i64 0) := cell_any Hy.out rfl
        have fy1 : w2.cell? ⟨w1.heap.size + 1, 1, none⟩ = some (.int .i64 1) := cell_any Hy.out rfl
        have fy2 : w2.cell? ⟨w1.heap.size + 1, 2, none⟩ = some (.string ⟨#[107]⟩) := cell_any Hy.out rfl
        have fy3 : w2.cell? ⟨w1.heap.size + 1, 3, none⟩ = some (.slice B m d) := cell_any Hy.out rfl
        have fy4 : w2.cell? ⟨w1.heap.size + 1, 4, none⟩ = some (.int .i64 3) := cell_any Hy.out rfl
        have fy5 : w2.cell? ⟨w1.heap.size + 1, 5, none⟩ = some (.int .i64 4) := cell_any Hy.out rfl
        have fy6 : w2.cell? ⟨w1.heap.size + 1, 6, none⟩ = some (.int .i64 4) := cell_any Hy.out rfl
        have fy7 : w2.cell? ⟨w1.heap.size + 1, 7, none⟩ = some (.int .i64 0) := cell_any Hy.out rfl
        have fy8 : w2.cell? ⟨w1.heap.size + 1, 8, none⟩ = some (.slice none 0 0) := cell_any Hy.out rfl
        have fy9 : w2.cell? ⟨w1.heap.size + 1, 9, none⟩ = some (.slice none 0 0) := cell_any Hy.out rfl
        have fz0 : w2.cell? ⟨w1.heap.size + 1 + 1, 0, none⟩ = some (.int .i64 0) := cell_any Hz.out rfl
        have fz1 : w2.cell? ⟨w1.heap.size + 1 + 1, 1, none⟩ = some (.int .i64 2) := cell_any Hz.out rfl
        have fz2 : w2.cell? ⟨w1.heap.size + 1 + 1, 2, none⟩ = some (.string ⟨#[107]⟩) := cell_any Hz.out rfl
        have fz3 : w2.cell? ⟨w1.heap.size + 1 + 1, 3, none⟩ = some (.slice none 0 0) := cell_any Hz.out rfl
        have fz4 : w2.cell? ⟨w1.heap.size + 1 + 1, 4, none⟩ = some (.int .i64 (z + 5)) := cell_any Hz.out rfl
        have fz5 : w2.cell? ⟨w1.heap.size + 1 + 1, 5, none⟩ = some (.int .i64 (z + 5 + 1)) := cell_any Hz.out rfl
        have fz6 : w2.cell? ⟨w1.heap.size + 1 + 1, 6, none⟩ = some (.int .i64 (z + 5)) := cell_any Hz.out rfl
        have fz7 : w2.cell? ⟨w1.heap.size + 1 + 1, 7, none⟩ = some (.int .i64 0) := cell_any Hz.out rfl
        have fz8 : w2.cell? ⟨w1.heap.size + 1 + 1, 8, none⟩ = some (.slice A n c) := cell_any Hz.out rfl
        have fz9 : w2.cell? ⟨w1.heap.size + 1 + 1, 9, none⟩ = some (.slice none 0 0) := cell_any Hz.out rfl
        go_wp2_with fail
        have KF0 := Aside0.mk (few_calls w2 w2.heap.size 3 [xC ⟨A, n, c, xs⟩, yC ⟨B, m, d, ys⟩, zC ⟨A, n, c, xs⟩ z] rfl _ rfl rfl (show 3 ≤ 20 by decide) (fit3 (fit_put RAw2.out).1 (fit_put RBw2.out).2 ((fit_get z RAw2.out).1)))
        rw [stale1 _ _ z hz0 HE.out] at KF0
        refine KF0.out.mono ?_
        rintro e w3 ⟨rfl, c3⟩
        replace Hx := Aside0.mk (c3.blk Hx.out (fun h => h))
        replace Hy := Aside0.mk (c3.blk Hy.out (fun h => h))
        replace Hz := Aside0.mk (c3.blk Hz.out (fun h => h))
        replace Hw := Aside0.mk (c3.blk Hw.out (fun h => h))
        replace Hv := Aside0.mk (c3.blk Hv.out (fun h => h))
        have Cw3 := Aside0.mk (Cw2.out.then_ c3 (fun _ h => h.elim))
        clear c3 KF0
        clear fx0 fx1 fx2 fx3 fx4 fx5 fx6 fx7 fx8 fx9 fy0 fy1 fy2 fy3 fy4 fy5 fy6 fy7 fy8 fy9 fz0 fz1 fz2 fz3 fz4 fz5 fz6 fz7 fz8 fz9
        have RAw3 := Aside0.mk (HAr.out.Ch Cw3.out)
        have RBw3 := Aside0.mk (HBr.out.Ch Cw3.out)
        have fx0 : w3.cell? ⟨w1.heap.size, 0, none⟩ = some (.int .i64 0) := cell_any Hx.out rfl
        have fx1 : w3.cell? ⟨w1.heap.size, 1, none⟩ = some (.int .i64 1) := cell_any Hx.out rfl
        have fx2 : w3.cell? ⟨w1.heap.size, 2, none⟩ = some (.string ⟨#[107]⟩) := cell_any Hx.out rfl
        have fx3 : w3.cell? ⟨w1.heap.size, 3, none⟩ = some (.slice A n c) := cell_any Hx.out rfl
        have fx4 : w3.cell? ⟨w1.heap.size, 4, none⟩ = some (.int .i64 1) := cell_any Hx.out rfl
        have fx5 : w3.cell? ⟨w1.heap.size, 5, none⟩ = some (.int .i64 2) := cell_any Hx.out rfl
        have fx6 : w3.cell? ⟨w1.heap.size, 6, none⟩ = some (.int .i64 2) := cell_any Hx.out rfl
        have fx7 : w3.cell? ⟨w1.heap.size, 7, none⟩ = some (.int .i64 0) := cell_any Hx.out rfl
        have fx8 : w3.cell? ⟨w1.heap.size, 8, none⟩ = some (.slice none 0 0) := cell_any Hx.out rfl
        have fx9 : w3.cell? ⟨w1.heap.size, 9, none⟩ = some (.slice none 0 0) := cell_any Hx.out rfl
        have fy0 : w3.cell? ⟨w1.heap.size + 1, 0, none⟩ = some (.int .i64 0) := cell_any Hy.out rfl
        have fy1 : w3.cell? ⟨w1.heap.size + 1, 1, none⟩ = some (.int .i64 1) := cell_any Hy.out rfl
        have fy2 : w3.cell? ⟨w1.heap.size + 1, 2, none⟩ = some (.string ⟨#[107]⟩) := cell_any Hy.out rfl
        have fy3 : w3.cell? ⟨w1.heap.size + 1, 3, none⟩ = some (.slice B m d) := cell_any Hy.out rfl
        have fy4 : w3.cell? ⟨w1.heap.size + 1, 4, none⟩ = some (.int .i64 3) := cell_any Hy.out rfl
        have fy5 : w3.cell? ⟨w1.heap.size + 1, 5, none⟩ = some (.int .i64 4) := cell_any Hy.out rfl
        have fy6 : w3.cell? ⟨w1.heap.size + 1, 6, none⟩ = some (.int .i64 4) := cell_any Hy.out rfl
        have fy7 : w3.cell? ⟨w1.heap.size + 1, 7, none⟩ = some (.int .i64 0) := cell_any Hy.out rfl
        have fy8 : w3.cell? ⟨w1.heap.size + 1, 8, none⟩ = some (.slice none 0 0) := cell_any Hy.out rfl
        have fy9 : w3.cell? ⟨w1.heap.size + 1, 9, none⟩ = some (.slice none 0 0) := cell_any Hy.out rfl
        have fw0 : w3.cell? ⟨w1.heap.size + 1 + 1 + 1, 0, none⟩ = some (.int .i64 0) := cell_any Hw.out rfl
        have fw1 : w3.cell? ⟨w1.heap.size + 1 + 1 + 1, 1, none⟩ = some (.int .i64 2) := cell_any Hw.out rfl
        have fw2 : w3.cell? ⟨w1.heap.size + 1 + 1 + 1, 2, none⟩ = some (.string ⟨#[107]⟩) := cell_any Hw.out rfl
        have fw3 : w3.cell? ⟨w1.heap.size + 1 + 1 + 1, 3, none⟩ = some (.slice none 0 0) := cell_any Hw.out rfl
        have fw4 : w3.cell? ⟨w1.heap.size + 1 + 1 + 1, 4, none⟩ = some (.int .i64 (z + 5)) := cell_any Hw.out rfl
        have fw5 : w3.cell? ⟨w1.heap.size + 1 + 1 + 1, 5, none⟩ = some (.int .i64 (z + 5 + 1)) := cell_any Hw.out rfl
        have fw6 : w3.cell? ⟨w1.heap.size + 1 + 1 + 1, 6, none⟩ = some (.int .i64 (z + 5)) := cell_any Hw.out rfl
        have fw7 : w3.cell? ⟨w1.heap.size + 1 + 1 + 1, 7, none⟩ = some (.int .i64 0) := cell_any Hw.out rfl
        have fw8 : w3.cell? ⟨w1.heap.size + 1 + 1 + 1, 8, none⟩ = some (.slice B m d) := cell_any Hw.out rfl
        have fw9 : w3.cell? ⟨w1.heap.size + 1 + 1 + 1, 9, none⟩ = some (.slice none 0 0) := cell_any Hw.out rfl
        go_wp2_with fail
        have KF1 := Aside0.mk (few_calls w3 w3.heap.size 3 [xC ⟨A, n, c, xs⟩, yC ⟨B, m, d, ys⟩, zC ⟨B, m, d, ys⟩ z] rfl _ rfl rfl (show 3 ≤ 20 by decide) (fit3 (fit_put RAw3.out).1 (fit_put RBw3.out).2 ((fit_get z RBw3.out).1)))
        rw [stale2 _ _ z hz0] at KF1
        refine KF1.out.mono ?_
        rintro e w4 ⟨rfl, c4⟩
        replace Hx := Aside0.mk (c4.blk Hx.out (fun h => h))
        replace Hy := Aside0.mk (c4.blk Hy.out (fun h => h))
        replace Hz := Aside0.mk (c4.blk Hz.out (fun h => h))
        replace Hw := Aside0.mk (c4.blk Hw.out (fun h => h))
        replace Hv := Aside0.mk (c4.blk Hv.out (fun h => h))
        have Cw4 := Aside0.mk (Cw3.out.then_ c4 (fun _ h => h.elim))
        clear c4 KF1
        clear fx0 fx1 fx2 fx3 fx4 fx5 fx6 fx7 fx8 fx9 fy0 fy1 fy2 fy3 fy4 fy5 fy6 fy7 fy8 fy9 fw0 fw1 fw2 fw3 fw4 fw5 fw6 fw7 fw8 fw9
        have RAw4 := Aside0.mk (HAr.out.Ch Cw4.out)
        have RBw4 := Aside0.mk (HBr.out.Ch Cw4.out)
        have fx0 : w4.cell? ⟨w1.heap.size, 0, none⟩ = some (.int .i64 0) := cell_any Hx.out rfl
        have fx1 : w4.cell? ⟨w1.heap.size, 1, none⟩ = some (.int .i64 1) := cell_any Hx.out rfl
        have fx2 : w4.cell? ⟨w1.heap.size, 2, none⟩ = some (.string ⟨#[107]⟩) := cell_any Hx.out rfl
        have fx3 : w4.cell? ⟨w1.heap.size, 3, none⟩ = some (.slice A n c) := cell_any Hx.out rfl
        have fx4 : w4.cell? ⟨w1.heap.size, 4, none⟩ = some (.int .i64 1) := cell_any Hx.out rfl
        have fx5 : w4.cell? ⟨w1.heap.size, 5, none⟩ = some (.int .i64 2) := cell_any Hx.out rfl
        have fx6 : w4.cell? ⟨w1.heap.size, 6, none⟩ = some (.int .i64 2) := cell_any Hx.out rfl
        have fx7 : w4.cell? ⟨w1.heap.size, 7, none⟩ = some (.int .i64 0) := cell_any Hx.out rfl
        have fx8 : w4.cell? ⟨w1.heap.size, 8, none⟩ = some (.slice none 0 0) := cell_any Hx.out rfl
        have fx9 : w4.cell? ⟨w1.heap.size, 9, none⟩ = some (.slice none 0 0) := cell_any Hx.out rfl
        have fy0 : w4.cell? ⟨w1.heap.size + 1, 0, none⟩ = some (.int .i64 0) := cell_any Hy.out rfl
        have fy1 : w4.cell? ⟨w1.heap.size + 1, 1, none⟩ = some (.int .i64 1) := cell_any Hy.out rfl
        have fy2 : w4.cell? ⟨w1.heap.size + 1, 2, none⟩ = some (.string ⟨#[107]⟩) := cell_any Hy.out rfl
        have fy3 : w4.cell? ⟨w1.heap.size + 1, 3, none⟩ = some (.slice B m d) := cell_any Hy.out rfl
        have fy4 : w4.cell? ⟨w1.heap.size + 1, 4, none⟩ = some (.int .i64 3) := cell_any Hy.out rfl
        have fy5 : w4.cell? ⟨w1.heap.size + 1, 5, none⟩ = some (.int .i64 4) := cell_any Hy.out rfl
        have fy6 : w4.cell? ⟨w1.heap.size + 1, 6, none⟩ = some (.int .i64 4) := cell_any Hy.out rfl
        have fy7 : w4.cell? ⟨w1.heap.size + 1, 7, none⟩ = some (.int .i64 0) := cell_any Hy.out rfl
        have fy8 : w4.cell? ⟨w1.heap.size + 1, 8, none⟩ = some (.slice none 0 0) := cell_any Hy.out rfl
        have fy9 : w4.cell? ⟨w1.heap.size + 1, 9, none⟩ = some (.slice none 0 0) := cell_any Hy.out rfl
        have fv0 : w4.cell? ⟨w1.heap.size + 1 + 1 + 1 + 1, 0, none⟩ = some (.int .i64 0) := cell_any Hv.out rfl
        have fv1 : w4.cell? ⟨w1.heap.size + 1 + 1 + 1 + 1, 1, none⟩ = some (.int .i64 2) := cell_any Hv.out rfl
        have fv2 : w4.cell? ⟨w1.heap.size + 1 + 1 + 1 + 1, 2, none⟩ = some (.string ⟨#[107]⟩) := cell_any Hv.out rfl
        have fv3 : w4.cell? ⟨w1.heap.size + 1 + 1 + 1 + 1, 3, none⟩ = some (.slice none 0 0) := cell_any Hv.out rfl
        have fv4 : w4.cell? ⟨w1.heap.size + 1 + 1 + 1 + 1, 4, none⟩ = some (.int .i64 2) := cell_any Hv.out rfl
        have fv5 : w4.cell? ⟨w1.heap.size + 1 + 1 + 1 + 1, 5, none⟩ = some (.int .i64 (z + 5 + 1)) := cell_any Hv.out rfl
        have fv6 : w4.cell? ⟨w1.heap.size + 1 + 1 + 1 + 1, 6, none⟩ = some (.int .i64 3) := cell_any Hv.out rfl
        have fv7 : w4.cell? ⟨w1.heap.size + 1 + 1 + 1 + 1, 7, none⟩ = some (.int .i64 0) := cell_any Hv.out rfl
        have fv8 : w4.cell? ⟨w1.heap.size + 1 + 1 + 1 + 1, 8, none⟩ = some (.slice A n c) := cell_any Hv.out rfl
        have fv9 : w4.cell? ⟨w1.heap.size + 1 + 1 + 1 + 1, 9, none⟩ = some (.slice none 0 0) := cell_any Hv.out rfl
        go_wp2_with fail
        have KF2 := Aside0.mk (few_calls w4 w4.heap.size 3 [xC ⟨A, n, c, xs⟩, yC ⟨B, m, d, ys⟩, vC ⟨A, n, c, xs⟩ z] rfl _ rfl rfl (show 3 ≤ 20 by decide) (fit3 (fit_put RAw4.out).1 (fit_put RBw4.out).2 ((fit_get z RAw4.out).2)))
        rw [stale3 _ _ z hz0] at KF2
        refine KF2.out.mono ?_
        rintro e w5 ⟨rfl, c5⟩
        replace Hx := Aside0.mk (c5.blk Hx.out (fun h => h))
        replace Hy := Aside0.mk (c5.blk Hy.out (fun h => h))
        replace Hz := Aside0.mk (c5.blk Hz.out (fun h => h))
        replace Hw := Aside0.mk (c5.blk Hw.out (fun h => h))
        replace Hv := Aside0.mk (c5.blk Hv.out (fun h => h))
        have Cw5 := Aside0.mk (Cw4.out.then_ c5 (fun _ h => h.elim))
        clear c5 KF2
        clear fx0 fx1 fx2 fx3 fx4 fx5 fx6 fx7 fx8 fx9 fy0 fy1 fy2 fy3 fy4 fy5 fy6 fy7 fy8 fy9 fv0 fv1 fv2 fv3 fv4 fv5 fv6 fv7 fv8 fv9
        go_wp2_with fail
        go_ret
        exact ⟨rfl, Cw5.out⟩
end Go.Proofs.Ytjlmhppifjoijaa
