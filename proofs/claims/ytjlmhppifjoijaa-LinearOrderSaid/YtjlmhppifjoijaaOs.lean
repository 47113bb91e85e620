/- An argument's reading as data, opened: what its cells are in Lean, how great its lists are (the form's reach), how much it holds (its bulk). -/
import Derived.Test.YtjlmhppifjoijaaA
import Derived.Test.YtjlmhppifjoijaaRows
import Derived.ChangeArms
set_option linter.unusedVariables false
namespace Go.Proofs.Ytjlmhppifjoijaa
open Go.RowKit Go.Proofs.YtjlmhppifjoijaaW.PrintWords Go.Proofs.YtjlmhppifjoijaaW.PrintLast Go.Proofs.YtjlmhppifjoijaaW.PrintMore
/-- What reads as data of type t reads as d; Q holds of it; S too where the reading is within reach; m is at most its bulk. -/
structure OpensS (P : Program) (t : TypeId) {α : Type} (d : Kd α) (Q S : α → Prop) (m : α → Nat) : Prop where
  op : ∀ {H : Type} {enc : TypeId × Value → H} {w : World} {base : Nat} {spare : Nat → Bool} {held : Bool} {fuel : Nat} {cs : List Value} {x : DataW H × List MemPlace},
    DataW.trod enc P w base spare held fuel t cs = some x → ∃ a, d.K w a cs ∧ Q a ∧ ((∀ n ∈ x.1.weights P t, n ≤ reachBytes) → S a) ∧ m a ≤ Rows.uptoBulk x.1
/-- The same of a struct's fields from offset o on. -/
structure OpensSF (P : Program) (fs : List Field) (o : Nat) {α : Type} (d : Kd α) (Q S : α → Prop) (m : α → Nat) : Prop where
  op : ∀ {H : Type} {enc : TypeId × Value → H} {w : World} {base : Nat} {spare : Nat → Bool} {held : Bool} {fuel : Nat} {cs : List Value} {xs : List (DataW H × List MemPlace)},
    xs.length = fs.length → (∀ (i : Nat) (f : Field), fs[i]? = some f → DataW.trod enc P w base spare held fuel f.type ((cs.drop f.offset).take (P.cellsOf f.type)) = xs[i]?) → cs.length = o + d.sz →
      ∃ a, d.K w a (cs.drop o) ∧ Q a ∧ ((∀ n ∈ DataW.weightsEach P (fs.map (·.type)) (xs.map (·.1)), n ≤ reachBytes) → S a) ∧ m a ≤ Rows.uptoBulkAll (xs.map (·.1))
section
variable {P : Program}
theorem opensS_int {t : TypeId} {k : IntKind} (ht : P.underlying t = some (.int k)) : OpensS P t (Kd.int k) (fun n => (Lit.int k n).wf = true) (fun _ => True) (fun _ => 1) :=
  ⟨fun h => by
    obtain ⟨n, rfl, rfl, hw⟩ := DataW.trod_int ht h
    exact ⟨n, rfl, hw, fun _ => trivial, by simp [Rows.uptoBulk]⟩⟩
theorem opensS_bool {t : TypeId} (ht : P.underlying t = some .bool) : OpensS P t Kd.bool (fun _ => True) (fun _ => True) (fun _ => 1) :=
  ⟨fun h => by
    obtain ⟨b, rfl, rfl⟩ := DataW.trod_bool ht h
    exact ⟨b, rfl, trivial, fun _ => trivial, by simp [Rows.uptoBulk]⟩⟩
theorem opensS_string {t : TypeId} (ht : P.underlying t = some .string) : OpensS P t Kd.string (fun s => s.size ≤ maxLen) (fun s => s.size ≤ 140737488351232) (fun s => s.size + 1) :=
  ⟨fun h => by
    obtain ⟨s, rfl, rfl, hl⟩ := DataW.trod_string ht h
    have e : s.data.toList.length = s.size := by rw [Array.length_toList]; rfl
    refine ⟨s, rfl, hl, fun h => ?_, by simp only [Rows.uptoBulk, e]; exact Nat.le_refl _⟩
    have := h s.data.toList.length (by simp [DataW.weights])
    rw [e] at this
    exact this⟩
theorem addr_addS (a : Addr) (m k : Nat) : (a.add m).add k = a.add (m + k) := by
  unfold Addr.add
  by_cases h1 : m = 0 <;> by_cases h2 : k = 0 <;> simp [h1, h2, Nat.add_assoc]
theorem list_ofS {α : Type} {p : Nat → α → Prop} : ∀ n : Nat, (∀ i, i < n → ∃ a, p i a) → ∃ xs : List α, xs.length = n ∧ ∀ i a, xs[i]? = some a → p i a
  | 0, _ => ⟨[], rfl, fun i a h => by simp at h⟩
  | n + 1, h => by
    obtain ⟨xs, hl, hx⟩ := list_ofS n (fun i hi => h i (by omega))
    obtain ⟨a, ha⟩ := h n (by omega)
    refine ⟨xs ++ [a], by simp [hl], fun i b hb => ?_⟩
    rw [List.getElem?_append] at hb
    split at hb
    · exact hx i b hb
    · rename_i hi
      have : i = n := by
        rcases Nat.lt_or_ge i (n + 1) with h1 | h1
        · omega
        · rw [List.getElem?_eq_none (by simp; omega)] at hb
          cases hb
      subst this
      rw [hl, Nat.sub_self] at hb
      obtain rfl : a = b := by simpa using hb
      exact ha
theorem weightsAll_mem {H : Type} {e : TypeId} {d : DataW H} : ∀ {l : List (DataW H)}, d ∈ l → ∀ n ∈ d.weights P e, n ∈ DataW.weightsAll P e l
  | x :: l, h, n, hn => by
    simp only [DataW.weightsAll, List.mem_append]
    rcases List.mem_cons.1 h with rfl | h
    · exact .inl hn
    · exact .inr (weightsAll_mem h n hn)
theorem bulk_sum {H α : Type} (m : α → Nat) : ∀ (xs : List α) (ds : List (DataW H)), xs.length = ds.length → (∀ (i : Nat) (a : α) (d : DataW H), xs[i]? = some a → ds[i]? = some d → m a ≤ Rows.uptoBulk d) → (xs.map m).sum ≤ Rows.uptoBulkAll ds
  | [], [], _, _ => by simp [Rows.uptoBulkAll]
  | [], _ :: _, h, _ => by simp at h
  | _ :: _, [], h, _ => by simp at h
  | x :: xs, d :: ds, hl, h => by
    have h1 := h 0 x d rfl rfl
    have h2 := bulk_sum m xs ds (by simpa using hl) (fun i a b ha hb => h (i + 1) a b (by simpa using ha) (by simpa using hb))
    simp only [List.map_cons, List.sum_cons, Rows.uptoBulkAll]
    omega
theorem opensS_slice {t e : TypeId} {α : Type} {d : Kd α} {Q S : α → Prop} {m : α → Nat} {B : Nat} (ht : P.underlying t = some (.slice e)) (hsz : P.cellsOf e = d.sz) (hB : P.bytesOf e = B) (he : OpensS P e d Q S m) (e' : Nat) :
    OpensS P t (Kd.slice e' d) (fun xs => ∀ x ∈ xs, Q x) (fun xs => xs.length * B ≤ 140737488351232 ∧ ∀ x ∈ xs, S x) (fun xs => (xs.map m).sum + 1) :=
  ⟨fun {H enc w base spare held fuel cs x} h => by
    rcases DataW.trod_slice ht h with ⟨rfl, rfl⟩ | ⟨a, len, cap, elems, rest, n, rfl, rfl, rfl, hb, hl, hm, hel, hall, _, _⟩
    · exact ⟨[], ⟨none, 0, rfl, Nat.le_refl _, rfl, by simp, fun h => absurd h (by simp)⟩, (fun x hx => by cases hx), fun _ => ⟨by simp, fun x hx => by cases hx⟩, by simp [Rows.uptoBulk]⟩
    · obtain ⟨xs, hxl, hxs⟩ := list_ofS (p := fun i (y : α) => ∃ c z, elems[i]? = some z ∧ w.cells? base (a.add (i * P.cellsOf e)) (P.cellsOf e) = some c ∧ d.K w y c ∧ Q y ∧ ((∀ n ∈ z.1.weights P e, n ≤ reachBytes) → S y) ∧ m y ≤ Rows.uptoBulk z.1) len (fun i hi => by
        have h1 := hall i hi
        have h2 : elems[i]? = some (elems[i]'(by omega)) := List.getElem?_eq_getElem (by omega)
        rw [h2] at h1
        obtain ⟨c, hc, hd⟩ := Option.bind_eq_some_iff.1 h1
        obtain ⟨y, hy, hq, hs, hmm⟩ := he.op hd
        exact ⟨y, c, _, h2, hc, hy, hq, hs, hmm⟩)
      refine ⟨xs, ⟨some a, cap, by rw [hxl], by omega, rfl, by rw [hxl]; simp only [maxLen] at hm; omega, fun _ => ⟨a, rfl, fun j p hj => ?_⟩⟩, fun x hx => ?_, fun hw => ⟨?_, fun x hx => ?_⟩, ?_⟩
      · obtain ⟨c, z, _, hc, hk, _⟩ := hxs j p hj
        obtain ⟨_, hcl, hcc⟩ := World.cells?_some hc
        refine ⟨c, by rw [hcl, hsz], hk, fun i u hu => ?_⟩
        have hi : i < P.cellsOf e := by
          rw [← hcl]
          exact (List.getElem?_eq_some_iff.1 hu).1
        have := hcc i hi
        rw [addr_addS, hsz, hu] at this
        exact this
      · obtain ⟨i, hi⟩ := List.getElem?_of_mem hx
        obtain ⟨_, _, _, _, _, hq, _⟩ := hxs i x hi
        exact hq
      · have := hw (((elems.map (·.1)).length + (rest.map (·.1)).length) * P.bytesOf e) (by simp [DataW.weights, ht])
        rw [hB] at this
        have h2 : xs.length * B ≤ ((elems.map (·.1)).length + (rest.map (·.1)).length) * B := Nat.mul_le_mul_right _ (by rw [List.length_map, hel, hxl]; omega)
        exact Nat.le_trans h2 this
      · obtain ⟨i, hi⟩ := List.getElem?_of_mem hx
        obtain ⟨_, z, hz, _, _, _, hs, _⟩ := hxs i x hi
        refine hs (fun n hn => hw n ?_)
        have hmem : z.1 ∈ elems.map (·.1) := List.mem_map.2 ⟨z, List.mem_of_getElem? hz, rfl⟩
        simp only [DataW.weights, ht, List.mem_cons, List.mem_append]
        exact .inr (.inl (weightsAll_mem hmem n hn))
      · have := bulk_sum m xs (elems.map (·.1)) (by rw [List.length_map, hel, hxl]) (fun i y z hy hz => by
          obtain ⟨_, z', hz', _, _, _, _, hmm⟩ := hxs i y hy
          rw [List.getElem?_map, hz'] at hz
          obtain rfl : z'.1 = z := by simpa using hz
          exact hmm)
        simp only [Rows.uptoBulk]
        omega⟩
theorem opensSF_one {f : Field} {o : Nat} {α : Type} {d : Kd α} {Q S : α → Prop} {m : α → Nat} (ho : f.offset = o) (hs : P.cellsOf f.type = d.sz) (h : OpensS P f.type d Q S m) : OpensSF P [f] o d Q S m :=
  ⟨fun {H enc w base spare held fuel cs xs} hxl hf hl => by
    obtain ⟨x, rfl⟩ : ∃ x, xs = [x] := by
      rcases xs with _ | ⟨x, _ | _⟩
      · simp at hxl
      · exact ⟨x, rfl⟩
      · simp at hxl
    obtain ⟨a, ha, hq, hS, hm⟩ := h.op (hf 0 f rfl)
    rw [ho, hs, List.take_of_length_le (by rw [List.length_drop]; omega)] at ha
    exact ⟨a, ha, hq, fun hw => hS (fun n hn => hw n (by simp [DataW.weightsEach, hn])), by simp [Rows.uptoBulkAll]; exact hm⟩⟩
theorem opensSF_cons {f : Field} {fs : List Field} {o : Nat} {α β : Type} {d : Kd α} {d2 : Kd β} {Q S : α → Prop} {m : α → Nat} {Q2 S2 : β → Prop} {m2 : β → Nat} (ho : f.offset = o) (hs : P.cellsOf f.type = d.sz) (h : OpensS P f.type d Q S m) (h2 : OpensSF P fs (o + d.sz) d2 Q2 S2 m2) :
    OpensSF P (f :: fs) o (Kd.pair d d2) (fun x => Q x.1 ∧ Q2 x.2) (fun x => S x.1 ∧ S2 x.2) (fun x => m x.1 + m2 x.2) :=
  ⟨fun {H enc w base spare held fuel cs xs} hxl hf hl => by
    have hl' : cs.length = o + (d.sz + d2.sz) := hl
    obtain ⟨x, ys, rfl⟩ : ∃ x ys, xs = x :: ys := by
      rcases xs with _ | ⟨x, ys⟩
      · simp at hxl
      · exact ⟨x, ys, rfl⟩
    obtain ⟨a, ha, hq, hS, hm⟩ := h.op (hf 0 f rfl)
    obtain ⟨b, hb, hq2, hS2, hm2⟩ := h2.op (xs := ys) (by simpa using hxl) (fun i g hg => by have := hf (i + 1) g (by simpa using hg); simpa using this) (by omega)
    rw [ho, hs] at ha
    refine ⟨(a, b), ⟨_, _, ?_, ha, hb⟩, ⟨hq, hq2⟩, fun hw => ⟨hS (fun n hn => hw n ?_), hS2 (fun n hn => hw n ?_)⟩, ?_⟩
    · rw [← List.drop_drop]
      exact (List.take_append_drop _ _).symm
    · simp only [List.map_cons, DataW.weightsEach, List.mem_append]
      exact .inl hn
    · simp only [List.map_cons, DataW.weightsEach, List.mem_append]
      exact .inr hn
    · simp only [List.map_cons, Rows.uptoBulkAll]
      omega⟩
theorem opensS_struct {t : TypeId} {fs : Array Field} {α : Type} {d : Kd α} {Q S : α → Prop} {m : α → Nat} (ht : P.underlying t = some (.struct fs)) (hs : P.cellsOf t = d.sz) (h : OpensSF P fs.toList 0 d Q S m) : OpensS P t d Q S m :=
  ⟨fun {H enc w base spare held fuel cs x} hx => by
    obtain ⟨xs, n, rfl, rfl, hl, hxl, hall⟩ := DataW.trod_struct ht hx
    obtain ⟨a, ha, hq, hS, hm⟩ := h.op (enc := enc) (w := w) (base := base) (spare := spare) (held := held) (fuel := n) (cs := cs) (xs := xs) (by simpa using hxl) (fun i f hi => hall i f (by simpa using hi)) (by rw [hl, hs, Nat.zero_add])
    refine ⟨a, by simpa using ha, hq, fun hw => hS (fun n hn => hw n ?_), ?_⟩
    · simp only [DataW.weights, ht]
      exact hn
    · simp only [Rows.uptoBulk]
      omega⟩
theorem opensS_iso {t : TypeId} {α β : Type} {d : Kd α} {Q S : α → Prop} {m : α → Nat} (h : OpensS P t d Q S m) (f : β → α) (g : α → β) (hf : ∀ a, f (g a) = a) : OpensS P t (Kd.iso d f) (fun b => Q (f b)) (fun b => S (f b)) (fun b => m (f b)) :=
  ⟨fun hx => by
    obtain ⟨a, ha, hq, hS, hm⟩ := h.op hx
    refine ⟨g a, ?_, by rw [hf]; exact hq, fun hw => by rw [hf]; exact hS hw, by rw [hf]; exact hm⟩
    show d.K _ (f (g a)) _
    rw [hf]
    exact ha⟩
end
end Go.Proofs.Ytjlmhppifjoijaa
