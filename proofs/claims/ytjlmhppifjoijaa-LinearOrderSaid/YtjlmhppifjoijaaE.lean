/- A row of calls after one call is written. -/
import Derived.Test.YtjlmhppifjoijaaB
set_option linter.unusedVariables false
namespace Go.Proofs.Ytjlmhppifjoijaa
open Go.RowKit Go.Proofs.YtjlmhppifjoijaaW.PrintWords Go.Proofs.YtjlmhppifjoijaaW.PrintLast Go.Proofs.YtjlmhppifjoijaaW.PrintMore
theorem cl_len (b : Cl) : b.cells.length = 10 := rfl
theorem get_mid {α : Type} (L : List α) (o : Nat) (v : List α) (h : o + v.length ≤ L.length) (q : Nat) :
    (L.take o ++ v ++ L.drop (o + v.length))[q]? = if q < o then L[q]? else if q < o + v.length then v[q - o]? else L[q]? := by
  have ho : (L.take o).length = o := by rw [List.length_take]; omega
  by_cases h1 : q < o
  · rw [if_pos h1, List.append_assoc, List.getElem?_append_left (by omega), List.getElem?_take_of_lt h1]
  · rw [if_neg h1]
    by_cases h2 : q < o + v.length
    · rw [if_pos h2, List.append_assoc, List.getElem?_append_right (by omega), ho, List.getElem?_append_left (by omega)]
    · rw [if_neg h2, List.getElem?_append_right (by rw [List.length_append]; omega), List.length_append, ho, List.getElem?_drop]
      congr 1
      omega
theorem Ch.setCells {w W : World} {S : Nat → Prop} (h : Ch w W S) {g : Nat} (hg : S g ∨ w.heap.size ≤ g) (o : Nat) (vs : List Value) : Ch w (W.setCells g o vs) S :=
  h.then_ (S2 := fun k => k = g) ⟨(setCells_same g vs o W).1, (setCells_same g vs o W).2.1, (setCells_same g vs o W).2.2.1, by rw [(setCells_same g vs o W).2.2.2]; exact Nat.le_refl _, fun i _ hn => setCells_far vs o i hn⟩ (fun k hk => by rw [hk]; exact hg)
theorem cl_put {w : World} {base : Nat} {ok : Nat → Prop} {g n c : Nat} {xs : List Cl} (h : kCl.R 29 w base ok (.slice (some ⟨g, 0, none⟩) n c) xs) (j : Nat) (hj : j < n) (b : Cl) :
    kCl.R 29 (w.setCells g (j * 10) b.cells) base ok (.slice (some ⟨g, 0, none⟩) n c) (xs.set j b) := by
  have hn : n = xs.length := (Kd.R_reads' h).1
  subst hn
  obtain ⟨hok, inner, ⟨hlen, ho⟩, hr⟩ := h
  rcases ho with ⟨he, _⟩ | ⟨g', cap, cur, he, hg, hc, hn1, hcm, hcs, htk⟩
  · cases he
  · cases he
    obtain ⟨cur', h3, h4, h5⟩ := setCells_row b.cells (j * 10) w cur hc (by rw [cl_len, hcs]; show _ ≤ c * 10; omega)
    have hL : j * 10 + b.cells.length ≤ cur.toList.length := by rw [cl_len, Array.length_toList, hcs]; show _ ≤ c * 10; omega
    have hcs' : cur.toList.length = c * 10 := by rw [Array.length_toList, hcs]; rfl
    have hc4 : cur'.toList.length = c * 10 := by rw [Array.length_toList, h4, hcs]; rfl
    refine ⟨hok, cur'.toList.take (xs.length * 10), ⟨?_, Or.inr ⟨g, c, cur', by rw [List.length_set], hg, h3, by rw [List.length_set]; exact hn1, hcm, by rw [h4, hcs], by rw [List.length_set]; rfl⟩⟩, ?_, ?_⟩
    · rw [List.length_set, List.length_take, hc4]
      show min (xs.length * 10) (c * 10) = xs.length * 10
      omega
    · rw [List.length_set, List.length_take, hc4]
      show min (xs.length * 10) (c * 10) = xs.length * 10
      omega
    · intro i p hp
      show List.take 10 (List.drop (i * 10) _) = p.cells
      have hi : i < xs.length := by
        have := (List.getElem?_eq_some_iff.mp hp).1
        rw [List.length_set] at this
        omega
      have hget : ∀ q, q < 10 → (List.take 10 (List.drop (i * 10) (cur'.toList.take (xs.length * 10))))[q]? = if i = j then b.cells[q]? else cur.toList[i * 10 + q]? := by
        intro q hq
        rw [List.getElem?_take_of_lt hq, List.getElem?_drop, List.getElem?_take_of_lt (by omega), h5, get_mid _ _ _ hL, cl_len]
        by_cases hij : i = j
        · subst hij
          rw [if_neg (show ¬ (i * 10 + q < i * 10) by omega), if_pos (show i * 10 + q < i * 10 + 10 by omega), if_pos rfl, show i * 10 + q - i * 10 = q by omega]
        · rw [if_neg hij]
          by_cases h1 : i * 10 + q < j * 10
          · rw [if_pos h1]
          · rw [if_neg h1, if_neg (show ¬ (i * 10 + q < j * 10 + 10) by omega)]
      have hll : (List.take 10 (List.drop (i * 10) (cur'.toList.take (xs.length * 10)))).length ≤ 10 := by rw [List.length_take]; omega
      by_cases hij : i = j
      · subst hij
        rw [List.getElem?_set_self (by omega)] at hp
        cases hp
        refine List.ext_getElem? (fun q => ?_)
        by_cases hq : q < 10
        · rw [hget q hq, if_pos rfl]
        · rw [List.getElem?_eq_none (by omega), List.getElem?_eq_none (by rw [cl_len]; omega)]
      · rw [List.getElem?_set_ne (fun e => hij e.symm)] at hp
        have hold : List.take 10 (List.drop (i * 10) inner) = p.cells := hr.2 i p hp
        refine List.ext_getElem? (fun q => ?_)
        by_cases hq : q < 10
        · rw [hget q hq, if_neg hij, ← hold, List.getElem?_take_of_lt hq, List.getElem?_drop, ← htk]
          show _ = (cur.toList.take (xs.length * 10))[i * 10 + q]?
          rw [List.getElem?_take_of_lt (by omega)]
        · rw [List.getElem?_eq_none (by omega), List.getElem?_eq_none (by rw [cl_len]; omega)]
end Go.Proofs.Ytjlmhppifjoijaa
