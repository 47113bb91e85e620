/- Small answers something, whatever record it is asked of. -/
import Derived.Test.YtcpekifbbjnjmaaN
set_option linter.unusedVariables false
namespace Go.Proofs.Ytcpekifbbjnjmaa
open Go.RowKit Go.Proofs.YtcpekifbbjnjmaaW.PrintWords Go.Proofs.YtcpekifbbjnjmaaW.PrintLast Go.Proofs.YtcpekifbbjnjmaaW.PrintMore Go.Proofs.Ytcpekifbbjnjmaa.PRecBack
/-- No list in the record has more than 2^47 elements. -/
structure Mod (r : Rc) : Prop where
  s : r.stripes.length ≤ 140737488355328
  s2 : ∀ x ∈ r.stripes, x.f2.length ≤ 140737488355328
  o : r.objects.length ≤ 140737488355328
  o3 : ∀ x ∈ r.objects, x.f3.length ≤ 140737488355328
  o2 : ∀ x ∈ r.objects, ∀ y ∈ x.f3, y.f2.length ≤ 140737488355328
  d : r.drives.length ≤ 140737488355328
theorem w64i (i : Int) (h0 : 0 ≤ i) (h : i < 9223372036854775807) : wrap64 i = i := by unfold wrap64; omega
section
variable (r : Rc) (hm : Mod r)
include hm
theorem small_l2 (i : Nat) (hi : i < r.objects.length) (H : ∀ x3 : Int, 0 ≤ x3 → x3 ≤ 200000000000000000 → ∃ k v, flittingref09_Small.l1 k x3 ((i + 1 : Nat) : Int) r.kind r.id r.size r.key r.stripes r.objects r.drives = some v) :
    ∀ (d j : Nat) (x3 : Int), j + d = (r.objects[i]).f3.length → 0 ≤ x3 → x3 ≤ 200000000000000000 → ∃ k v, flittingref09_Small.l2 k x3 i j r.kind r.id r.size r.key r.stripes r.objects r.drives = some v
  | 0, j, x3, hj, h0, h1 => by
    obtain ⟨k, v, h⟩ := H x3 h0 h1
    refine ⟨k + 1, v, ?_⟩
    have hol := hm.o
    rw [flittingref09_Small.l2, if_pos (by omega), if_pos (by omega), rd44 _ i hi, if_neg (by omega), w64 i (by omega)]
    exact h
  | d + 1, j, x3, hj, h0, h1 => by
    have hol := hm.o
    have hlt : j < (r.objects[i]).f3.length := by omega
    have ho3 := hm.o3 _ (List.getElem_mem hi)
    by_cases hx : x3 < 4000
    · have h2 := hm.o2 _ (List.getElem_mem hi) _ (List.getElem_mem hlt)
      obtain ⟨k, v, h⟩ := small_l2 i hi H d (j + 1) (x3 + ((r.objects[i]).f3[j]).f2.length) (by omega) (by omega) (by omega)
      refine ⟨k + 1, v, ?_⟩
      rw [flittingref09_Small.l2, if_pos (by omega), if_pos (by omega), rd44 _ i hi, if_pos (by omega), if_pos hx, if_pos (by omega), rd41 _ j hlt, w64 j (by omega), w64i _ (by omega) (by omega)]
      exact h
    · obtain ⟨k, v, h⟩ := H x3 h0 h1
      refine ⟨k + 1, v, ?_⟩
      rw [flittingref09_Small.l2, if_pos (by omega), if_pos (by omega), rd44 _ i hi, if_pos (by omega), if_neg hx, w64 i (by omega)]
      exact h
theorem small_l1 : ∀ (d i : Nat) (x3 : Int), i + d = r.objects.length → 0 ≤ x3 → x3 ≤ 200000000000000000 → ∃ k v, flittingref09_Small.l1 k x3 i r.kind r.id r.size r.key r.stripes r.objects r.drives = some v
  | 0, i, x3, hi, h0, h1 => by
    refine ⟨2, decide (x3 < 4000), ?_⟩
    rw [flittingref09_Small.l1, if_neg (by omega), flittingref09_Small.j2, if_neg (by simp)]
  | d + 1, i, x3, hi, h0, h1 => by
    have hol := hm.o
    have hlt : i < r.objects.length := by omega
    have ho3 := hm.o3 _ (List.getElem_mem hlt)
    by_cases hx : x3 < 4000
    · obtain ⟨k, v, h⟩ := small_l2 r hm i hlt (fun y h2 h3 => small_l1 d (i + 1) y (by omega) h2 h3) (r.objects[i]).f3.length 0 (x3 + (r.objects[i]).f3.length) (by omega) (by omega) (by omega)
      refine ⟨k + 2, v, ?_⟩
      rw [flittingref09_Small.l1, if_pos (by omega), flittingref09_Small.j2, if_pos (by simp [hx]), if_pos (by omega), if_pos (by omega), rd44 _ i hlt, w64i _ (by omega) (by omega)]
      exact h
    · refine ⟨2, decide (x3 < 4000), ?_⟩
      rw [flittingref09_Small.l1, if_pos (by omega), flittingref09_Small.j2, if_neg (by simp [hx])]
theorem small_l0 (hs : r.stripes.length ≤ 400) (B : Int) (hB : B = 140737488355328) (d : Nat) : ∀ (i : Nat) (x3 : Int), i + d = r.stripes.length → 0 ≤ x3 → x3 + d * B ≤ 400 + 400 * B → ∃ k v, flittingref09_Small.l0 k x3 i r.kind r.id r.size r.key r.stripes r.objects r.drives = some v := by
  induction d with
  | zero =>
    intro i x3 hi h0 h1
    obtain ⟨k, v, h⟩ := small_l1 r hm r.objects.length 0 x3 (by omega) h0 (by omega)
    refine ⟨k + 1, v, ?_⟩
    rw [flittingref09_Small.l0, if_neg (by omega)]
    exact h
  | succ d ih =>
    intro i x3 hi h0 h1
    have hlt : i < r.stripes.length := by omega
    have h2 := hm.s2 _ (List.getElem_mem hlt)
    have h3 : ((d + 1 : Nat) : Int) * B = d * B + B := by rw [Int.natCast_succ, Int.add_mul, Int.one_mul]
    have h4 : 0 ≤ (d : Int) * B := Int.mul_nonneg (by omega) (by omega)
    rw [h3] at h1
    obtain ⟨k, v, h⟩ := ih (i + 1) (x3 + (r.stripes[i]).f2.length) (by omega) (by omega) (by omega)
    refine ⟨k + 1, v, ?_⟩
    rw [flittingref09_Small.l0, if_pos (by omega), if_pos (by omega), rd41 _ i hlt, w64 i (by omega), w64i _ (by omega) (by omega)]
    exact h
theorem small_f : ∃ k v, flittingref09_Small.f k r.kind r.id r.size r.key r.stripes r.objects r.drives = some v := by
  have h1 := hm.s
  have h2 := hm.o
  have h3 := hm.d
  have e1 : wrap64 ((r.stripes.length : Int) + r.objects.length) = (r.stripes.length : Int) + r.objects.length := w64i _ (by omega) (by omega)
  have e2 : wrap64 ((r.stripes.length : Int) + r.objects.length + r.drives.length) = (r.stripes.length : Int) + r.objects.length + r.drives.length := w64i _ (by omega) (by omega)
  by_cases hg : (r.stripes.length : Int) + r.objects.length + r.drives.length > 400
  · refine ⟨0, false, ?_⟩
    unfold flittingref09_Small.f
    rw [e1, e2, if_pos hg]
  · obtain ⟨k, v, h⟩ := small_l0 r hm (by omega) 140737488355328 rfl r.stripes.length 0 ((r.stripes.length : Int) + r.objects.length + r.drives.length) (by omega) (by omega) (by omega)
    refine ⟨k, v, ?_⟩
    unfold flittingref09_Small.f
    rw [e1, e2, if_neg hg]
    exact h
end
theorem small_at (r : Rc) (v4 v5 v6 : Sl) (w : World) (h : RecAt w r v4 v5 v6) (hm : Mod r) :
    Calls Try.prog 8 #[.agg #[.int .i64 r.kind, .int .i64 r.id, .int .i64 r.size, .string r.key, .slice v4.A v4.n v4.c, .slice v5.A v5.n v5.c, .slice v6.A v6.n v6.c]] w fun e w' => ∃ b, e = .returned (.bool b) ∧ Aside0 (Below w.heap.size w w') := by
  obtain ⟨k, v, hv⟩ := small_f r hm
  obtain ⟨A4, n4, c4⟩ := v4
  obtain ⟨A5, n5, c5⟩ := v5
  obtain ⟨A6, n6, c6⟩ := v6
  obtain ⟨e4, l4, h4, e5, l5, h5, e6, l6, h6⟩ := h
  simp only at e4 e5 e6 h4 h5 h6 l4 l5 l6 ⊢
  subst e4 e5 e6
  refine (flittingref09_Small.calls k _ _ _ _ A4 c4 _ A5 c5 _ A6 c6 _ v w h4 l4 h5 l5 h6 l6 hv).mono ?_
  rintro e w' ⟨rfl, hb⟩
  exact ⟨v, rfl, ⟨hb⟩⟩
end Go.Proofs.Ytcpekifbbjnjmaa
