/- An argument's reading as data, opened: what its cells are in Lean. -/
import Derived.Test.YtgehempmccponaaA
import Derived.ChangeArms
set_option linter.unusedVariables false
namespace Go.Proofs.Ytgehempmccponaa
open Go.RowKit Go.Proofs.YtgehempmccponaaW.PrintWords Go.Proofs.YtgehempmccponaaW.PrintLast Go.Proofs.YtgehempmccponaaW.PrintMore
/-- What reads as data of type t reads as d, and Q holds of it. -/
structure Opens (P : Program) (t : TypeId) {α : Type} (d : Kd α) (Q : α → Prop) : Prop where
  op : ∀ {H : Type} {enc : TypeId × Value → H} {w : World} {base : Nat} {spare : Nat → Bool} {held : Bool} {fuel : Nat} {cs : List Value} {x : DataW H × List MemPlace},
    DataW.trod enc P w base spare held fuel t cs = some x → ∃ a, d.K w a cs ∧ Q a
/-- The same of a struct's fields from offset o on. -/
structure OpensF (P : Program) (fs : List Field) (o : Nat) {α : Type} (d : Kd α) (Q : α → Prop) : Prop where
  op : ∀ {H : Type} {enc : TypeId × Value → H} {w : World} {base : Nat} {spare : Nat → Bool} {held : Bool} {fuel : Nat} {cs : List Value},
    (∀ f, f ∈ fs → ∃ x, DataW.trod enc P w base spare held fuel f.type ((cs.drop f.offset).take (P.cellsOf f.type)) = some x) → cs.length = o + d.sz → ∃ a, d.K w a (cs.drop o) ∧ Q a
section
variable {P : Program}
theorem opens_int {t : TypeId} {k : IntKind} (ht : P.underlying t = some (.int k)) : Opens P t (Kd.int k) (fun n => (Lit.int k n).wf = true) :=
  ⟨fun h => by
    obtain ⟨n, rfl, _, hw⟩ := DataW.trod_int ht h
    exact ⟨n, rfl, hw⟩⟩
theorem opens_bool {t : TypeId} (ht : P.underlying t = some .bool) : Opens P t Kd.bool (fun _ => True) :=
  ⟨fun h => by
    obtain ⟨b, rfl, _⟩ := DataW.trod_bool ht h
    exact ⟨b, rfl, trivial⟩⟩
theorem opens_string {t : TypeId} (ht : P.underlying t = some .string) : Opens P t Kd.string (fun s => s.size ≤ maxLen) :=
  ⟨fun h => by
    obtain ⟨s, rfl, _, hl⟩ := DataW.trod_string ht h
    exact ⟨s, rfl, hl⟩⟩
theorem addr_add (a : Addr) (m k : Nat) : (a.add m).add k = a.add (m + k) := by
  unfold Addr.add
  by_cases h1 : m = 0 <;> by_cases h2 : k = 0 <;> simp [h1, h2, Nat.add_assoc]
theorem list_of {α : Type} {p : Nat → α → Prop} : ∀ n : Nat, (∀ i, i < n → ∃ a, p i a) → ∃ xs : List α, xs.length = n ∧ ∀ i a, xs[i]? = some a → p i a
  | 0, _ => ⟨[], rfl, fun i a h => by simp at h⟩
  | n + 1, h => by
    obtain ⟨xs, hl, hx⟩ := list_of n (fun i hi => h i (by omega))
    obtain ⟨a, ha⟩ := h n (by omega)
    refine ⟨xs ++ [a], by simp [hl], fun i b hb => ?_⟩
    rw [List.getElem?_append] at hb
    split at hb
    · exact hx i b hb
    · rename_i hi
      have : i = n := by
        rcases Nat.lt_or_ge i (n + 1) with h1 | h1
        · omega
        · rw [List.getElem?_eq_none (by simp; omega)] at hb
          cases hb
      subst this
      rw [hl, Nat.sub_self] at hb
      obtain rfl : a = b := by simpa using hb
      exact ha
theorem opens_slice {t e : TypeId} {α : Type} {d : Kd α} {Q : α → Prop} (ht : P.underlying t = some (.slice e)) (hsz : P.cellsOf e = d.sz) (he : Opens P e d Q) (e' : Nat) : Opens P t (Kd.slice e' d) (fun xs => ∀ x ∈ xs, Q x) :=
  ⟨fun {H enc w base spare held fuel cs x} h => by
    rcases DataW.trod_slice ht h with ⟨rfl, _⟩ | ⟨a, len, cap, elems, rest, n, rfl, rfl, _, hb, hl, hm, hel, hall, _, _⟩
    · exact ⟨[], ⟨none, 0, rfl, Nat.le_refl _, rfl, by simp, fun h => absurd h (by simp)⟩, fun x hx => by cases hx⟩
    · obtain ⟨xs, hxl, hxs⟩ := list_of (p := fun i (y : α) => ∃ c, w.cells? base (a.add (i * P.cellsOf e)) (P.cellsOf e) = some c ∧ d.K w y c ∧ Q y) len (fun i hi => by
        have h1 := hall i hi
        have h2 : elems[i]? = some (elems[i]'(by omega)) := List.getElem?_eq_getElem (by omega)
        rw [h2] at h1
        obtain ⟨c, hc, hd⟩ := Option.bind_eq_some_iff.1 h1
        obtain ⟨y, hy, hq⟩ := he.op hd
        exact ⟨y, c, hc, hy, hq⟩)
      refine ⟨xs, ⟨some a, cap, by rw [hxl], by omega, rfl, by rw [hxl]; simp only [maxLen] at hm; omega, fun _ => ⟨a, rfl, fun j p hj => ?_⟩⟩, fun x hx => ?_⟩
      · obtain ⟨c, hc, hk, _⟩ := hxs j p hj
        obtain ⟨_, hcl, hcc⟩ := World.cells?_some hc
        refine ⟨c, by rw [hcl, hsz], hk, fun i u hu => ?_⟩
        have hi : i < P.cellsOf e := by
          rw [← hcl]
          exact (List.getElem?_eq_some_iff.1 hu).1
        have := hcc i hi
        rw [addr_add, hsz, hu] at this
        exact this
      · obtain ⟨i, hi⟩ := List.getElem?_of_mem hx
        obtain ⟨_, _, _, hq⟩ := hxs i x hi
        exact hq⟩
theorem opensF_one {f : Field} {o : Nat} {α : Type} {d : Kd α} {Q : α → Prop} (ho : f.offset = o) (hs : P.cellsOf f.type = d.sz) (h : Opens P f.type d Q) : OpensF P [f] o d Q :=
  ⟨fun {H enc w base spare held fuel cs} hf hl => by
    obtain ⟨x, hx⟩ := hf f (by simp)
    obtain ⟨a, ha, hq⟩ := h.op hx
    rw [ho, hs, List.take_of_length_le (by rw [List.length_drop]; omega)] at ha
    exact ⟨a, ha, hq⟩⟩
theorem opensF_cons {f : Field} {fs : List Field} {o : Nat} {α β : Type} {d : Kd α} {d2 : Kd β} {Q : α → Prop} {Q2 : β → Prop} (ho : f.offset = o) (hs : P.cellsOf f.type = d.sz) (h : Opens P f.type d Q) (h2 : OpensF P fs (o + d.sz) d2 Q2) : OpensF P (f :: fs) o (Kd.pair d d2) (fun x => Q x.1 ∧ Q2 x.2) :=
  ⟨fun {H enc w base spare held fuel cs} hf hl => by
    have hl' : cs.length = o + (d.sz + d2.sz) := hl
    obtain ⟨x, hx⟩ := hf f (by simp)
    obtain ⟨a, ha, hq⟩ := h.op hx
    obtain ⟨b, hb, hq2⟩ := h2.op (fun g hg => hf g (List.mem_cons_of_mem _ hg)) (by omega)
    rw [ho, hs] at ha
    refine ⟨(a, b), ⟨_, _, ?_, ha, hb⟩, hq, hq2⟩
    rw [← List.drop_drop]
    exact (List.take_append_drop _ _).symm⟩
theorem opens_struct {t : TypeId} {fs : Array Field} {α : Type} {d : Kd α} {Q : α → Prop} (ht : P.underlying t = some (.struct fs)) (hs : P.cellsOf t = d.sz) (h : OpensF P fs.toList 0 d Q) : Opens P t d Q :=
  ⟨fun {H enc w base spare held fuel cs x} hx => by
    obtain ⟨xs, n, rfl, _, hl, hxl, hall⟩ := DataW.trod_struct ht hx
    obtain ⟨a, ha, hq⟩ := h.op (enc := enc) (w := w) (base := base) (spare := spare) (held := held) (fuel := n) (cs := cs) (fun f hf => by
      obtain ⟨i, hi⟩ := List.getElem?_of_mem hf
      have h1 := hall i f (by simpa using hi)
      have hil : i < xs.length := by
        have := (List.getElem?_eq_some_iff.1 hi).1
        rw [hxl]
        simpa using this
      rw [List.getElem?_eq_getElem hil] at h1
      exact ⟨_, h1⟩) (by rw [hl, hs, Nat.zero_add])
    exact ⟨a, by simpa using ha, hq⟩⟩
theorem opens_iso {t : TypeId} {α β : Type} {d : Kd α} {Q : α → Prop} (h : Opens P t d Q) (f : β → α) (g : α → β) (hf : ∀ a, f (g a) = a) : Opens P t (Kd.iso d f) (fun b => Q (f b)) :=
  ⟨fun hx => by
    obtain ⟨a, ha, hq⟩ := h.op hx
    refine ⟨g a, ?_, by rw [hf]; exact hq⟩
    show d.K _ (f (g a)) _
    rw [hf]
    exact ha⟩
end
end Go.Proofs.Ytgehempmccponaa
