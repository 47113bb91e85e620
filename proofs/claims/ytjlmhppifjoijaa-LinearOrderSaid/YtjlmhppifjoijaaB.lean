/- Calls as rows of raw cells; the insertion sort in Lean. -/
import Derived.Test.YtjlmhppifjoijaaA
set_option linter.unusedVariables false
namespace Go.Proofs.Ytjlmhppifjoijaa
open Go.RowKit Go.Proofs.YtjlmhppifjoijaaW.PrintWords Go.Proofs.YtjlmhppifjoijaaW.PrintLast Go.Proofs.YtjlmhppifjoijaaW.PrintMore
/-- A slice's value, and (told beside it) what it reads as. -/
structure Sl where
  A : Option Addr
  n : Nat
  c : Nat
  b : List Int := []
def Sl.val (s : Sl) : Value := .slice s.A s.n s.c
/-- A call's cells: its slices are told as they are. -/
structure Cl where
  task : Int
  op : Int
  key : ByteArray
  data : Sl
  fr : Int
  til : Int
  at_ : Int
  e : Int
  out : Sl
  keys : Sl
def Cl.cells (x : Cl) : List Value :=
  [.int .i64 x.task, .int .i64 x.op, .string x.key, .slice x.data.A x.data.n x.data.c, .int .i64 x.fr, .int .i64 x.til, .int .i64 x.at_, .int .i64 x.e, .slice x.out.A x.out.n x.out.c, .slice x.keys.A x.keys.n x.keys.c]
def kCl : Kd Cl where
  sz := 10
  E := []
  K := fun _ x cs => cs = x.cells
  M := fun _ _ _ x cs => cs = x.cells
  K_len := fun h => by rw [h]; rfl
  K_one := fun h u hu => by
    rw [h] at hu
    simp [Cl.cells] at hu
    rcases hu with rfl | rfl | rfl | rfl | rfl | rfl | rfl | rfl | rfl | rfl <;> rfl
  K_below := fun _ h => h
  K_of_M := fun h => h
  M_mono := fun _ h => h
  M_bound := fun h => h
  M_move := fun _ h => h
  M_lower := fun _ h => h
/-- One way down: while the call at j came ahead of the one at j - 1 the two change places. -/
def sink (xs : List Cl) : Nat → List Cl
  | 0 => xs
  | j + 1 => match xs[j + 1]?, xs[j]? with
    | some a, some b => if a.at_ < b.at_ then sink ((xs.set (j + 1) b).set j a) j else xs
    | _, _ => xs
/-- The first i of xs put in order. -/
def insF (xs : List Cl) : Nat → List Cl
  | 0 => xs
  | i + 1 => sink (insF xs i) i
theorem sink_length (xs : List Cl) : ∀ j, (sink xs j).length = xs.length
  | 0 => rfl
  | j + 1 => by
    unfold sink
    split
    · split
      · rw [sink_length]; simp
      · rfl
    · rfl
theorem insF_length (xs : List Cl) : ∀ i, (insF xs i).length = xs.length
  | 0 => rfl
  | i + 1 => by rw [insF, sink_length, insF_length]
/-- When the call at p was. -/
def atOf (xs : List Cl) (p : Nat) : Int := match xs[p]? with
  | some x => x.at_
  | none => 0
theorem atOf_set (xs : List Cl) (i p : Nat) (x : Cl) (hi : i < xs.length) : atOf (xs.set i x) p = if i = p then x.at_ else atOf xs p := by
  unfold atOf
  rw [List.getElem?_set]
  by_cases h : i = p
  · subst h
    simp [hi]
  · simp [h]
theorem sink_sorted : ∀ (j : Nat) (xs : List Cl) (i : Nat), j ≤ i → i < xs.length → (∀ p q, p < q → q ≤ i → p ≠ j → q ≠ j → atOf xs p ≤ atOf xs q) → (∀ q, j < q → q ≤ i → atOf xs j ≤ atOf xs q) →
    ∀ p q, p < q → q ≤ i → atOf (sink xs j) p ≤ atOf (sink xs j) q
  | 0, xs, i, hj, hi, H, Hj => fun p q hpq hq => by
    show atOf xs p ≤ atOf xs q
    by_cases hp : p = 0
    · subst hp; exact Hj q hpq hq
    · exact H p q hpq hq hp (by omega)
  | j + 1, xs, i, hj, hi, H, Hj => fun p q hpq hq => by
    have e1 : xs[j + 1]? = some (xs[j + 1]'(by omega)) := List.getElem?_eq_getElem (by omega)
    have e0 : xs[j]? = some (xs[j]'(by omega)) := List.getElem?_eq_getElem (by omega)
    have a1 : atOf xs (j + 1) = (xs[j + 1]'(by omega)).at_ := by simp only [atOf, e1]
    have a0 : atOf xs j = (xs[j]'(by omega)).at_ := by simp only [atOf, e0]
    unfold sink
    rw [e1, e0]
    dsimp only
    split
    · rename_i hlt
      refine sink_sorted j _ i (by omega) (by simp; omega) ?_ ?_ p q hpq hq
      · intro p q hpq hq hp hq'
        rw [atOf_set _ _ _ _ (by simp; omega), atOf_set _ _ _ _ (by omega), atOf_set _ _ _ _ (by simp; omega), atOf_set _ _ _ _ (by omega), if_neg (Ne.symm hp), if_neg (Ne.symm hq')]
        by_cases h1 : j + 1 = p
        · rw [if_pos h1, if_neg (by omega), ← a0]
          exact H j q (by omega) hq (by omega) (by omega)
        · rw [if_neg h1]
          by_cases h2 : j + 1 = q
          · rw [if_pos h2, ← a0]
            exact H p j (by omega) (by omega) (by omega) (by omega)
          · rw [if_neg h2]
            exact H p q hpq hq (by omega) (by omega)
      · intro q hjq hq
        have t1 : atOf ((xs.set (j + 1) (xs[j]'(by omega))).set j (xs[j + 1]'(by omega))) j = (xs[j + 1]'(by omega)).at_ := by
          rw [atOf_set _ _ _ _ (by simp; omega), if_pos rfl]
        have t2 : atOf ((xs.set (j + 1) (xs[j]'(by omega))).set j (xs[j + 1]'(by omega))) q = if j + 1 = q then (xs[j]'(by omega)).at_ else atOf xs q := by
          rw [atOf_set _ _ _ _ (by simp; omega), if_neg (by omega), atOf_set _ _ _ _ (by omega)]
        rw [t1, t2]
        by_cases h2 : j + 1 = q
        · rw [if_pos h2]; omega
        · rw [if_neg h2, ← a1]
          exact Hj q (by omega) hq
    · rename_i hge
      by_cases h1 : p = j + 1
      · subst h1
        exact Hj q hpq hq
      · by_cases h2 : q = j + 1
        · subst h2
          have hb : atOf xs j ≤ atOf xs (j + 1) := by rw [a0, a1]; omega
          by_cases h3 : p = j
          · subst h3; exact hb
          · exact Int.le_trans (H p j (by omega) (by omega) (by omega) (by omega)) hb
        · exact H p q hpq hq h1 h2
theorem insF_sorted (xs : List Cl) : ∀ i, i ≤ xs.length → ∀ p q, p < q → q < i → atOf (insF xs i) p ≤ atOf (insF xs i) q
  | 0, _ => fun p q _ hq => by omega
  | i + 1, hi => fun p q hpq hq => by
    refine sink_sorted i (insF xs i) i (Nat.le_refl _) (by rw [insF_length]; omega) ?_ (fun q h1 h2 => by omega) p q hpq (by omega)
    intro p q hpq hq hp hq'
    exact insF_sorted xs i (by omega) p q hpq (by omega)
theorem swap_perm (xs : List Cl) (j : Nat) (hj : j + 1 < xs.length) : ((xs.set (j + 1) (xs[j]'(by omega))).set j (xs[j + 1]'hj)).Perm xs := List.set_set_perm hj (by omega)
theorem sink_perm : ∀ (j : Nat) (xs : List Cl), (sink xs j).Perm xs
  | 0, xs => List.Perm.refl _
  | j + 1, xs => by
    unfold sink
    split
    · rename_i a b ha hb
      split
      · obtain ⟨h1, rfl⟩ := List.getElem?_eq_some_iff.1 ha
        obtain ⟨h2, rfl⟩ := List.getElem?_eq_some_iff.1 hb
        exact (sink_perm j _).trans (swap_perm xs j h1)
      · exact List.Perm.refl _
    · exact List.Perm.refl _
theorem insF_perm (xs : List Cl) : ∀ i, (insF xs i).Perm xs
  | 0 => List.Perm.refl _
  | i + 1 => (sink_perm i _).trans (insF_perm xs i)
end Go.Proofs.Ytjlmhppifjoijaa
