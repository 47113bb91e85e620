/- Calls made one after the other: what a map answers. -/
import Derived.Test.YtjlmhppifjoijaaJ
set_option linter.unusedVariables false
namespace Go.Proofs.Ytjlmhppifjoijaa
open Go.RowKit Go.Proofs.YtjlmhppifjoijaaW.PrintWords Go.Proofs.YtjlmhppifjoijaaW.PrintLast Go.Proofs.YtjlmhppifjoijaaW.PrintMore
def stF : List Cl → Wd → Wd
  | [], f => f
  | x :: r, f => stF r (doF f x)
theorem run_snoc : ∀ (xs : List Cl) (x : Cl) (f : Wd), runF (xs ++ [x]) f = (runF xs f && (goodT x && okF (stF xs f) x))
  | [], x, f => by simp [runF, stF]
  | y :: ys, x, f => by
    rw [List.cons_append]
    simp only [runF, stF, run_snoc ys x, Bool.and_assoc]
theorem st_snoc : ∀ (xs : List Cl) (x : Cl) (f : Wd), stF (xs ++ [x]) f = doF (stF xs f) x
  | [], x, f => rfl
  | y :: ys, x, f => by
    rw [List.cons_append]
    exact st_snoc ys x _
theorem run_bad : ∀ (xs : List Cl) (x : Cl) (f : Wd), x ∈ xs → goodT x = false → runF xs f = false
  | [], x, f, h, _ => by cases h
  | y :: ys, x, f, h, hb => by
    rcases List.mem_cons.1 h with rfl | h
    · simp [runF, hb]
    · simp [runF, run_bad ys x _ h hb]
/-- Calls that stand in the order of their times, each at another. -/
def Stands (cs : List Cl) : Prop := ∀ (i : Nat) (x : Cl), cs[i]? = some x → x.at_ = 3 * (i : Int) + 2
theorem stands_live {cs : List Cl} (h : Stands cs) : live cs = cs := by
  unfold live
  rw [List.filter_eq_self]
  intro x hx
  obtain ⟨i, hi⟩ := List.getElem?_of_mem hx
  have := h i x hi
  simp
  omega
theorem pair_of_at {cs : List Cl} (h : ∀ p q, p < q → q < cs.length → atOf cs p ≤ atOf cs q) : cs.Pairwise (fun a b => a.at_ ≤ b.at_) := by
  rw [List.pairwise_iff_getElem]
  intro i j hi hj hij
  have := h i j hij hj
  simpa [atOf, hi, hj] using this
theorem stands_pair {cs : List Cl} (h : Stands cs) : cs.Pairwise (fun a b => a.at_ ≤ b.at_) := by
  rw [List.pairwise_iff_getElem]
  intro i j hi hj hij
  have h1 := h i _ (List.getElem?_eq_getElem hi)
  have h2 := h j _ (List.getElem?_eq_getElem hj)
  omega
theorem stands_inj {cs : List Cl} (h : Stands cs) (a b : Cl) (ha : a ∈ cs) (hb : b ∈ cs) (e : a.at_ = b.at_) : a = b := by
  obtain ⟨i, hi⟩ := List.getElem?_of_mem ha
  obtain ⟨j, hj⟩ := List.getElem?_of_mem hb
  have h1 := h i a hi
  have h2 := h j b hj
  have : i = j := by omega
  subst this
  rw [hi] at hj
  exact Option.some.inj hj
/-- In whatever order they came they are put so. -/
theorem ord_of_perm {cs l : List Cl} (h : Stands cs) (hp : l.Perm cs) : ordF l = cs := by
  have hlive : live l = l := by
    unfold live
    rw [List.filter_eq_self]
    intro x hx
    obtain ⟨i, hi⟩ := List.getElem?_of_mem (hp.mem_iff.1 hx)
    have := h i x hi
    simp
    omega
  unfold ordF
  rw [hlive]
  refine List.Perm.eq_of_pairwise (le := fun a b => a.at_ ≤ b.at_) (fun a b ha hb h1 h2 => stands_inj h a b (hp.mem_iff.1 ((insF_perm l _).mem_iff.1 ha)) hb (by omega)) ?_ (stands_pair h) ((insF_perm l _).trans hp)
  exact pair_of_at (fun p q hpq hq => insF_sorted l _ (Nat.le_refl _) p q hpq (by rwa [insF_length] at hq))
/-- The bytes of a string, as numbers. -/
def numsB (v : ByteArray) : List Int := v.data.toList.map (fun b => (b.toNat : Int))
abbrev Last := ByteArray → Option ByteArray
def Last.put (f : Last) (k v : ByteArray) : Last := fun j => if j = k then some v else f j
/-- The map of the world says what the map of the law says. -/
def Agree (last : Last) (f : Wd) : Prop := ∀ q, (last q = none → f q = none) ∧ ∀ v, last q = some v → ∃ s, f q = some s ∧ s.b = numsB v
structure Good (cs : List Cl) (last : Last) : Prop where
  st : Stands cs
  tm : ∀ (i : Nat) (x : Cl), cs[i]? = some x → x.fr = 3 * (i : Int) + 1 ∧ x.til = 3 * (i : Int) + 3
  run : runF cs (fun _ => none) = true
  ag : Agree last (stF cs (fun _ => none))
theorem good_nil : Good [] (fun _ => none) := ⟨fun i x h => by simp at h, fun i x h => by simp at h, rfl, fun q => ⟨fun _ => rfl, fun v h => by cases h⟩⟩
theorem snoc_at {α : Type} {xs : List α} {x y : α} {i : Nat} (h : (xs ++ [x])[i]? = some y) : (i < xs.length ∧ xs[i]? = some y) ∨ (i = xs.length ∧ y = x) := by
  by_cases hi : i < xs.length
  · rw [List.getElem?_append_left hi] at h
    exact Or.inl ⟨hi, h⟩
  · rw [List.getElem?_append_right (by omega)] at h
    have h1 := (List.getElem?_eq_some_iff.1 h).1
    simp at h1
    have : i = xs.length := by omega
    subst this
    simp at h
    exact Or.inr ⟨rfl, h.symm⟩
theorem good_step {cs : List Cl} {last last' : Last} (h : Good cs last) (x : Cl) (ha : x.at_ = 3 * (cs.length : Int) + 2) (hf : x.fr = 3 * (cs.length : Int) + 1) (ht : x.til = 3 * (cs.length : Int) + 3) (hok : okF (stF cs (fun _ => none)) x = true) (hag : Agree last' (doF (stF cs (fun _ => none)) x)) : Good (cs ++ [x]) last' := by
  refine ⟨fun i y hy => ?_, fun i y hy => ?_, ?_, ?_⟩
  · rcases snoc_at hy with ⟨_, h1⟩ | ⟨rfl, rfl⟩
    · exact h.st i y h1
    · exact ha
  · rcases snoc_at hy with ⟨_, h1⟩ | ⟨rfl, rfl⟩
    · exact h.tm i y h1
    · exact ⟨hf, ht⟩
  · rw [run_snoc, h.run, hok]
    have : goodT x = true := goodT_4 (by omega) (by omega)
    rw [this]
    rfl
  · rw [st_snoc]
    exact hag
def putC (t : Nat) (k : ByteArray) (s : Sl) : Cl := ⟨0, 1, k, s, 3 * t + 1, 3 * t + 3, 3 * t + 2, 0, sN, sN⟩
def getC (t : Nat) (k : ByteArray) (s : Sl) (e : Int) : Cl := ⟨0, 2, k, sN, 3 * t + 1, 3 * t + 3, 3 * t + 2, e, s, sN⟩
theorem good_put {cs : List Cl} {last : Last} (h : Good cs last) (k v : ByteArray) (s : Sl) (hs : s.b = numsB v) : Good (cs ++ [putC cs.length k s]) (last.put k v) := by
  refine good_step h _ rfl rfl rfl rfl ?_
  intro q
  show (last.put k v q = none → (if (1 : Int) = 1 ∧ (0 : Int) = 0 then (stF cs _).put k s else stF cs _) q = none) ∧ ∀ u, last.put k v q = some u → ∃ t, (if (1 : Int) = 1 ∧ (0 : Int) = 0 then (stF cs _).put k s else stF cs _) q = some t ∧ t.b = numsB u
  rw [if_pos ⟨rfl, rfl⟩]
  unfold Last.put Wd.put
  by_cases hq : q = k
  · rw [if_pos hq, if_pos hq]
    exact ⟨(fun h => by cases h), (fun u hu => by cases hu; exact ⟨s, rfl, hs⟩)⟩
  · rw [if_neg hq, if_neg hq]
    exact h.ag q
theorem doF_get (f : Wd) (t : Nat) (k : ByteArray) (s : Sl) (e : Int) : doF f (getC t k s e) = f := rfl
theorem good_get {cs : List Cl} {last : Last} (h : Good cs last) (k v : ByteArray) (s : Sl) (hs : s.b = numsB v) (hk : last k = some v) : Good (cs ++ [getC cs.length k s 0]) last := by
  refine good_step h _ rfl rfl rfl ?_ h.ag
  obtain ⟨u, hu, hb⟩ := (h.ag k).2 v hk
  have : getF (stF cs (fun _ => none)) (getC cs.length k s 0) = true := by
    show (if (0 : Int) = 0 then (match stF cs (fun _ => none) k with | none => false | some t => eqB t.b s.b) else _) = true
    rw [if_pos rfl, hu]
    show eqB u.b s.b = true
    rw [hb, hs, eqB_self]
  show (if (2 : Int) = 1 then true else (_ || getF _ _)) = true
  rw [if_neg (by decide), this, Bool.or_true]
theorem good_miss {cs : List Cl} {last : Last} (h : Good cs last) (k : ByteArray) (s : Sl) (hk : last k = none) : Good (cs ++ [getC cs.length k s 7]) last := by
  refine good_step h _ rfl rfl rfl ?_ h.ag
  have hu := (h.ag k).1 hk
  have : getF (stF cs (fun _ => none)) (getC cs.length k s 7) = true := by
    show (if (7 : Int) = 0 then _ else (stF cs (fun _ => none) k).isNone) = true
    rw [if_neg (by decide), hu]
    rfl
  show (if (2 : Int) = 1 then true else (_ || getF _ _)) = true
  rw [if_neg (by decide), this, Bool.or_true]
theorem good_true {cs l : List Cl} {last : Last} (h : Good cs last) (hp : l.Perm cs) : checkF l = true := by
  unfold checkF
  rw [ord_of_perm h.st hp]
  exact h.run
theorem good_false {cs : List Cl} {last : Last} (h : Good cs last) (j : Nat) (x : Cl) (hx : cs[j]? = some x) : checkF (cs.set j (x.fr0 (x.at_ + 1))) = false := by
  have hs : Stands (cs.set j (x.fr0 (x.at_ + 1))) := by
    intro i y hy
    by_cases hij : j = i
    · subst hij
      have hj := (List.getElem?_eq_some_iff.1 hx).1
      rw [List.getElem?_set_self hj] at hy
      cases hy
      exact h.st j x hx
    · rw [List.getElem?_set_ne hij] at hy
      exact h.st i y hy
  unfold checkF
  rw [ord_of_perm hs (List.Perm.refl _)]
  refine run_bad _ (x.fr0 (x.at_ + 1)) _ (List.mem_of_getElem? (List.getElem?_set_self (List.getElem?_eq_some_iff.1 hx).1)) (goodT_1 ?_)
  show x.at_ < x.at_ + 1
  omega
end Go.Proofs.Ytjlmhppifjoijaa
