/- The law's own map of strings, and rows of bytes that the law makes. -/
import Derived.Test.YtjlmhppifjoijaaT
import Derived.Laws.IdiomStrings
set_option linter.unusedVariables false
namespace Go.Proofs.Ytjlmhppifjoijaa
open Go.RowKit Go.Proofs.YtjlmhppifjoijaaW.PrintWords Go.Proofs.YtjlmhppifjoijaaW.PrintLast Go.Proofs.YtjlmhppifjoijaaW.PrintMore
/-- Block b is a map of at most n entries that says f. -/
def MapS (w : World) (b n : Nat) (f : Last) : Prop :=
  ∃ D : DataW Value, w.ownsMap Try.prog 9 RV b n D ∧ Maps.IsMap D ∧ ∀ k : ByteArray,
    (f k = none → Maps.has D (kl k) = false) ∧ ∀ s, f k = some s → Maps.has D (kl k) = true ∧ ∀ z, D.atKey (kl k) z = .held (.string s)
def strV : Option ByteArray → Value
  | none => .string ⟨#[]⟩
  | some s => .string s
theorem MapS.made (w : World) : MapS (w.alloc (.map #[] 0)) w.heap.size 0 (fun _ => none) :=
  ⟨.map [], World.ownsMap_made _ _ _ _, Maps.isMap_empty, fun k => ⟨fun _ => rfl, fun s h => by cases h⟩⟩
theorem MapS.Ch {w W : World} {S : Nat → Prop} {b n : Nat} {f : Last} (h : MapS w b n f) (c : Ch w W S) (hb : ¬ S b) : MapS W b n f := by
  obtain ⟨D, ⟨es, clock, h1, h2⟩, h3⟩ := h
  exact ⟨D, ⟨es, clock, c.blk h1 hb, h2⟩, h3⟩
theorem MapS.mono {w : World} {b n : Nat} {f : Last} (h : MapS w b n f) : MapS w b (n + 1) f := by
  obtain ⟨D, h1, h2, h3⟩ := h
  exact ⟨D, h1.mono (Nat.le_succ _), h2, h3⟩
theorem MapS.isMap {w : World} {b n : Nat} {f : Last} (h : MapS w b n f) : ∃ es clock, w.heap[b]? = some (.map es clock) := by
  obtain ⟨D, ⟨es, clock, h1, h2⟩, h3⟩ := h
  exact ⟨es, clock, h1⟩
theorem zero9 (w : World) : (zeroValue 9).run Try.prog w = .ok (.string ⟨#[]⟩) w := by
  kernel_rfl
theorem MapS.look {w : World} {b n : Nat} {f : Last} (h : MapS w b n f) {k : ByteArray} (hk : k.size ≤ maxLen) :
    (Instr.lookup 25 (.map (some b)) (.string k) true).run Try.prog w = .ok (.tuple #[strV (f k), .bool (f k).isSome]) w := by
  obtain ⟨D, h1, h2, h3⟩ := h
  obtain ⟨v, ps, hrun, hv⟩ := h1.look_ok law9 Try.underlying25 (zero9 w) (zd := .held (.string ⟨#[]⟩)) (zp := []) rfl (key_kl hk)
  rw [hrun]
  have hv' : DataW.held v = D.atKey (kl k) (.held (.string ⟨#[]⟩)) := by
    have := hv
    simp only [RV, Option.some.injEq, Prod.mk.injEq] at this
    exact this.1
  cases hf : f k with
  | none =>
    have hh := (h3 k).1 hf
    rw [Maps.atKey_of_not_has hh] at hv'
    rw [hh]
    injection hv' with hv'
    rw [hv']
    rfl
  | some s =>
    obtain ⟨hh, hz⟩ := (h3 k).2 s hf
    rw [hz] at hv'
    rw [hh]
    injection hv' with hv'
    rw [hv']
    rfl
theorem step_puts {ops : Array Oper} {rest : List Oper} {o : Oper} {a : Act} {Q : Exit → Act → World → Prop} {w : World} {b n : Nat} {f : Last} (h : MapS w b n f)
    (hg : o.guard = none) (m x v : Operand) (hop : o.op = Op.mapUpdate 25 m x v) (hm : a.eval m = .map (some b)) (hn : n < maxLen) (k s : ByteArray) (hx : a.eval x = .string k) (hv : a.eval v = .string s) (hk : k.size ≤ maxLen)
    (hK : ∀ w', MapS w' b (n + 1) (f.put k s) → Ch w w' (fun j => j = b) → wpList Try.prog ops Q rest (a.put o.dst undef) w') :
    wpList Try.prog ops Q (o :: rest) a w := by
  obtain ⟨D, h1, h2, h3⟩ := h
  refine wpList_mapUpdate_own w hg m x v 25 hop 9 9 law9 Try.underlying25 RV b n D hm h1 hn _ _ _ hx hv (key_kl hk) _ _ rfl fun w' hw hgr => ?_
  refine hK w' ⟨D.put (kl k) (.held (.string s)), hw, h2.put _ _, fun j => ?_⟩ ((Ch.of_grown hgr).mono fun i hi => by injection hi with hi; exact hi.symm)
  unfold Last.put
  by_cases hj : j = k
  · subst hj
    rw [if_pos rfl]
    exact ⟨(fun h => by cases h), (fun s' hs' => by
      cases hs'
      exact ⟨Maps.has_put_same h2 (kl_key _) _, fun z => Maps.atKey_put_same h2 (kl_key _) _ _⟩)⟩
  · rw [if_neg hj]
    have hne : kl j ≠ kl k := fun e => hj (kl_inj e)
    exact ⟨(fun h => by rw [Maps.has_put_other hne]; exact (h3 j).1 h), (fun s' hs' => by
      rw [Maps.has_put_other hne]
      exact ⟨((h3 j).2 s' hs').1, fun z => by rw [Maps.atKey_put_other hne]; exact ((h3 j).2 s' hs').2 z⟩)⟩
/-- The slice reads so, and its block is a row of bytes. -/
def Dt (w : World) (s : Sl) : Prop := s = sN ∨ ∃ g cs f, s.A = some ⟨g, 0, none⟩ ∧ w.heap[g]? = some (.cells cs 5 f) ∧ s.n = s.b.length ∧ s.b.length ≤ s.c ∧ s.b.length ≤ 9223372036854775807 ∧ ∀ (j : Nat) (p : Int), s.b[j]? = some p → cs[j]? = some (.int .u8 p)
theorem Dt.Rd {w : World} {s : Sl} (h : Dt w s) : Rd w s := by
  rcases h with rfl | ⟨g, cs, f, hA, hb, hn, hc, hm, hr⟩
  · exact Rd_nil w
  · refine ⟨hn, hc, ⟨rfl, hm, fun _ => ⟨_, hA, fun j p hp => ⟨[.int .u8 p], rfl, rfl, fun i u hu => ?_⟩⟩⟩⟩
    have hi : i = 0 := by
      have := (List.getElem?_eq_some_iff.1 hu).1
      simp at this
      exact this
    subst hi
    simp at hu
    subst hu
    rw [add_plain]
    refine cell_any hb ?_
    show cs[j * 1 + 0]? = _
    rw [Nat.mul_one, Nat.add_zero]
    exact hr j p hp
/-- Kept where only blocks of other kinds have changed. -/
theorem Dt.keep {w W : World} {s : Sl} {S : Nat → Prop} (h : Dt w s) (c : Ch w W S) (hS : ∀ g cs f, S g → w.heap[g]? ≠ some (.cells cs 5 f)) : Dt W s := by
  rcases h with rfl | ⟨g, cs, f, hA, hb, hn, hc, hm, hr⟩
  · exact Or.inl rfl
  · exact Or.inr ⟨g, cs, f, hA, c.blk hb (fun hg => hS g cs f hg hb), hn, hc, hm, hr⟩
theorem bytes_conv (w : World) (s : ByteArray) : (convert 9 22 (.string s)).run Try.prog w = .ok (.slice (some ⟨w.heap.size, 0, none⟩) s.size (grownCap w s.size 0 5))
      (w.drew.alloc (.cells (bytesRow s (grownCap w s.size 0 5)) 5 ((bytesRow s (grownCap w s.size 0 5)).size, (bytesRow s (grownCap w s.size 0 5)).size + 1))) :=
  run_bytes_of_string w 9 22 5 s Try.underlying9 Try.underlying22 Try.underlying5
theorem Dt.made (w : World) (v : ByteArray) (c : Nat) (f : Nat × Nat) (hc : v.size ≤ c) (hv : v.size ≤ 1000) : Dt (w.alloc (.cells (bytesRow v c) 5 f)) ⟨some ⟨w.heap.size, 0, none⟩, v.size, c, numsB v⟩ := by
  have hl : (numsB v).length = v.size := by simp [numsB]
  refine Or.inr ⟨w.heap.size, bytesRow v c, f, rfl, alloc_self _ _, hl.symm, by rw [hl]; exact hc, by rw [hl]; omega, fun j p hp => ?_⟩
  have hj : j < v.data.size := by
    have := (List.getElem?_eq_some_iff.1 hp).1
    rw [hl] at this
    exact this
  rw [bytesRow_at v c j hj]
  simp only [numsB, List.getElem?_map, Array.getElem?_toList, Array.getElem?_eq_getElem hj, Option.map_some, Option.some.injEq] at hp
  rw [← hp]
def S1 (x : Int) : ByteArray := strOfNums [x]
theorem S1_size (x : Int) : (S1 x).size = 1 := rfl
theorem str_conv (w : World) (B : Nat) (x : Int) (hB : B = w.heap.size) : (convert 22 9 (.slice (some ⟨B, 0, none⟩) 1 1)).run Try.prog (w.alloc (.cells #[.int .u8 x] 5)) = .ok (.string (S1 x)) (w.alloc (.cells #[.int .u8 x] 5)) := by
  subst hB
  refine Kd.C_string (xs := [x]) Try.underlying22 Try.underlying5 Try.underlying9 ⟨rfl, by omega, fun _ => ⟨_, rfl, fun j p hp => ⟨[.int .u8 p], rfl, rfl, fun i u hu => ?_⟩⟩⟩
  have hj : j = 0 := by
    have := (List.getElem?_eq_some_iff.1 hp).1
    simp at this
    exact this
  have hi : i = 0 := by
    have := (List.getElem?_eq_some_iff.1 hu).1
    simp at this
    exact this
  subst hj hi
  simp at hp hu
  subst hp hu
  rw [add_plain]
  exact cell_any (alloc_self _ _) rfl
end Go.Proofs.Ytjlmhppifjoijaa
