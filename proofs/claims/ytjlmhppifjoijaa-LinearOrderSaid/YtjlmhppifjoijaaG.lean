/- The map of a world: what it says, and the calls that ask and change it. -/
import Derived.Test.YtjlmhppifjoijaaF
import Derived.Maps.OwnSet
import Derived.Maps.OwnOps
import Derived.StringKeys
set_option linter.unusedVariables false
namespace Go.Proofs.Ytjlmhppifjoijaa
open Go.RowKit Go.Proofs.YtjlmhppifjoijaaW.PrintWords Go.Proofs.YtjlmhppifjoijaaW.PrintLast Go.Proofs.YtjlmhppifjoijaaW.PrintMore
/-- An element as it is. -/
def RV (v : Value) : Option (DataW Value × List MemPlace) := some (.held v, [])
abbrev Wd := ByteArray → Option Sl
def Wd.put (f : Wd) (k : ByteArray) (s : Sl) : Wd := fun j => if j = k then some s else f j
def kl (k : ByteArray) : Lit := .string k.data.toList
/-- Block b is a map of at most n entries that says f. -/
def MapW (w : World) (b n : Nat) (f : Wd) : Prop :=
  ∃ D : DataW Value, w.ownsMap Try.prog 9 RV b n D ∧ Maps.IsMap D ∧ ∀ k : ByteArray,
    (f k = none → Maps.has D (kl k) = false) ∧ ∀ s, f k = some s → Maps.has D (kl k) = true ∧ ∀ z, D.atKey (kl k) z = .held s.val
def lookV : Option Sl → Value
  | none => .slice none 0 0
  | some s => s.val
theorem law9 : Maps.Keyed Try.prog 9 := Maps.string_keyed Try.underlying9
theorem kl_inj {a b : ByteArray} (h : kl a = kl b) : a = b := by
  have h1 : a.data.toList = b.data.toList := by injection h
  have h2 : a.data = b.data := by rw [← Array.toArray_toList (xs := a.data), h1, Array.toArray_toList]
  cases a; cases b; simp_all
theorem key_kl {k : ByteArray} (hk : k.size ≤ maxLen) : keyOf Try.prog 9 (.string k) = some (kl k) := WideMaps.keyOf_string_mk Try.underlying9 hk
theorem kl_key (k : ByteArray) : WideAt.IsKeyLit (kl k) := by trivial
theorem MapW.made (w : World) : MapW (w.alloc (.map #[] 0)) w.heap.size 0 (fun _ => none) :=
  ⟨.map [], World.ownsMap_made _ _ _ _, Maps.isMap_empty, fun k => ⟨fun _ => rfl, fun s h => by cases h⟩⟩
theorem MapW.Ch {w W : World} {S : Nat → Prop} {b n : Nat} {f : Wd} (h : MapW w b n f) (c : Ch w W S) (hb : ¬ S b) : MapW W b n f := by
  obtain ⟨D, ⟨es, clock, h1, h2⟩, h3⟩ := h
  exact ⟨D, ⟨es, clock, c.blk h1 hb, h2⟩, h3⟩
theorem MapW.mono {w : World} {b n : Nat} {f : Wd} (h : MapW w b n f) : MapW w b (n + 1) f := by
  obtain ⟨D, h1, h2, h3⟩ := h
  exact ⟨D, h1.mono (Nat.le_succ _), h2, h3⟩
theorem zero22 (w : World) : (zeroValue 22).run Try.prog w = .ok (.slice none 0 0) w := by
  kernel_rfl
theorem MapW.look {w : World} {b n : Nat} {f : Wd} (h : MapW w b n f) {k : ByteArray} (hk : k.size ≤ maxLen) :
    (Instr.lookup 39 (.map (some b)) (.string k) true).run Try.prog w = .ok (.tuple #[lookV (f k), .bool (f k).isSome]) w := by
  obtain ⟨D, h1, h2, h3⟩ := h
  obtain ⟨v, ps, hrun, hv⟩ := h1.look_ok law9 Try.underlying39 (zero22 w) (zd := .held (.slice none 0 0)) (zp := []) rfl (key_kl hk)
  rw [hrun]
  have hv' : DataW.held v = D.atKey (kl k) (.held (.slice none 0 0)) := by
    have := hv
    simp only [RV, Option.some.injEq, Prod.mk.injEq] at this
    exact this.1
  cases hf : f k with
  | none =>
    have hh := (h3 k).1 hf
    rw [Maps.atKey_of_not_has hh] at hv'
    rw [hh]
    injection hv' with hv'
    rw [hv']
    rfl
  | some s =>
    obtain ⟨hh, hz⟩ := (h3 k).2 s hf
    rw [hz] at hv'
    rw [hh]
    injection hv' with hv'
    rw [hv']
    rfl
/-- m[k] = v, for the walk. -/
theorem step_put {ops : Array Oper} {rest : List Oper} {o : Oper} {a : Act} {Q : Exit → Act → World → Prop} {w : World} {b n : Nat} {f : Wd} (h : MapW w b n f)
    (hg : o.guard = none) (m x v : Operand) (hop : o.op = Op.mapUpdate 39 m x v) (hm : a.eval m = .map (some b)) (hn : n < maxLen) (k : ByteArray) (s : Sl) (hx : a.eval x = .string k) (hv : a.eval v = s.val) (hk : k.size ≤ maxLen)
    (hK : ∀ w', MapW w' b (n + 1) (f.put k s) → Ch w w' (fun j => j = b) → wpList Try.prog ops Q rest (a.put o.dst undef) w') :
    wpList Try.prog ops Q (o :: rest) a w := by
  obtain ⟨D, h1, h2, h3⟩ := h
  refine wpList_mapUpdate_own w hg m x v 39 hop 9 22 law9 Try.underlying39 RV b n D hm h1 hn _ _ _ hx hv (key_kl hk) _ _ rfl fun w' hw hgr => ?_
  refine hK w' ⟨D.put (kl k) (.held s.val), hw, h2.put _ _, fun j => ?_⟩ ((Ch.of_grown hgr).mono fun i hi => by injection hi with hi; exact hi.symm)
  unfold Wd.put
  by_cases hj : j = k
  · subst hj
    rw [if_pos rfl]
    exact ⟨fun h => (by cases h), fun s' hs' => by
      cases hs'
      exact ⟨Maps.has_put_same h2 (kl_key _) _, fun z => Maps.atKey_put_same h2 (kl_key _) _ _⟩⟩
  · rw [if_neg hj]
    have hne : kl j ≠ kl k := fun e => hj (kl_inj e)
    exact ⟨fun h => by rw [Maps.has_put_other hne]; exact (h3 j).1 h, fun s' hs' => by
      rw [Maps.has_put_other hne]
      exact ⟨((h3 j).2 s' hs').1, fun z => by rw [Maps.atKey_put_other hne]; exact ((h3 j).2 s' hs').2 z⟩⟩
/-- The slice reads in w as is told beside it. -/
def Rd (w : World) (s : Sl) : Prop := s.n = s.b.length ∧ s.b.length ≤ s.c ∧ (Kd.int .u8).C w s.A s.b.length s.b
theorem Rd.Ch {w W : World} {s : Sl} (h : Rd w s) (c : Ch w W (fun _ => False)) : Rd W s := ⟨h.1, h.2.1, Kd.C_below h.2.2 (c.quiet fun _ h => h.elim)⟩
def eqB (x y : List Int) : Bool := (strOfNums x).toList == (strOfNums y).toList
set_option maxHeartbeats 400000 in
theorem equal_calls (s t : Sl) (w : World) (hs : Rd w s) (ht : Rd w t) : Calls Try.prog 22 #[.slice s.A s.n s.c, .slice t.A t.n t.c] w fun e w' => e = .returned (.bool (eqB s.b t.b)) ∧ Ch w w' (fun _ => False) := by
  obtain ⟨h1, h2, h3⟩ := hs
  obtain ⟨g1, g2, g3⟩ := ht
  rw [h1, g1]
  have hcv3 := Kd.C_string (P := Try.prog) (A := s.A) (c := s.c) Try.underlying22 Try.underlying5 Try.underlying9 h3
  have hcv4 := Kd.C_string (P := Try.prog) (A := t.A) (c := t.c) Try.underlying22 Try.underlying5 Try.underlying9 g3
  clear h3 g3
  go_enter Try.func22, Try.ntmps22
  go_wp2
  go_ret
  exact ⟨rfl, by first | exact Ch.refl _ _ | exact (Ch.refl _ _).drew | exact (Ch.refl _ _).drewN _⟩
/-- A Get's answer. -/
def getF (f : Wd) (x : Cl) : Bool := if x.e = 0 then (match f x.key with | none => false | some s => eqB s.b x.out.b) else (f x.key).isNone
set_option maxHeartbeats 1000000 in
theorem get_calls (x : Cl) (w : World) (b n : Nat) (f : Wd) (hm : MapW w b n f) (hk : x.key.size ≤ maxLen) (he : x.e = 0 ∨ x.e = 7) (ho : Rd w x.out) (hf : ∀ s, f x.key = some s → Rd w s) :
    Calls Try.prog 16 #[.map (some b), .agg x.cells.toArray] w fun e w' => e = .returned (.bool (getF f x)) ∧ Ch w w' (fun _ => False) := by
  have c1 := (Ch.refl w (fun _ => False)).alloc (.cells x.cells.toArray 29)
  have hl := (hm.Ch c1 (fun h => h)).look hk
  have HF := Aside0.mk (fun s hs => (hf s hs).Ch c1)
  have C1 := Aside0.mk c1
  have HO := Aside0.mk (ho.Ch c1)
  clear c1 hm hf ho
  simp only [Cl.cells] at hl C1 HO HF ⊢
  rcases he with he | he
  · rw [he] at hl C1 HO HF ⊢
    cases hfk : f x.key with
    | none =>
      rw [hfk] at hl
      simp only [lookV, Option.isSome] at hl
      have hg : getF f x = false := by simp [getF, he, hfk]
      rw [hg]
      go_enter Try.func16, Try.ntmps16
      go_wp2_with fail
      go_ret
      exact ⟨rfl, C1.out⟩
    | some s =>
      have HS := Aside0.mk (HF.out s hfk)
      rw [hfk] at hl
      simp only [lookV, Sl.val, Option.isSome] at hl
      have hg : getF f x = eqB s.b x.out.b := by simp [getF, he, hfk]
      rw [hg]
      go_enter Try.func16, Try.ntmps16
      go_wp2_with (go_at_call 22; go_must (refine (equal_calls s x.out _ HS.out HO.out).mono ?_; rintro e w1 ⟨rfl, c2⟩; have C2 := Aside0.mk c2; clear c2))
      go_ret
      exact ⟨rfl, C1.out.then_ C2.out (fun _ h => h.elim)⟩
  · rw [he] at hl C1 HO HF ⊢
    cases hfk : f x.key with
    | none =>
      rw [hfk] at hl
      simp only [lookV, Option.isSome] at hl
      have hg : getF f x = true := by simp [getF, he, hfk]
      rw [hg]
      go_enter Try.func16, Try.ntmps16
      go_wp2_with fail
      go_ret
      exact ⟨rfl, C1.out⟩
    | some s =>
      rw [hfk] at hl
      simp only [lookV, Sl.val, Option.isSome] at hl
      have hg : getF f x = false := by simp [getF, he, hfk]
      rw [hg]
      go_enter Try.func16, Try.ntmps16
      go_wp2_with fail
      go_ret
      exact ⟨rfl, C1.out⟩
/-- What a call does to the map. -/
def doF (f : Wd) (x : Cl) : Wd := if x.op = 1 ∧ x.e = 0 then f.put x.key x.data else f
/-- Is the call's answer right? -/
def okF (f : Wd) (x : Cl) : Bool := if x.op = 1 then true else (x.til == 0 || getF f x)
set_option maxHeartbeats 1000000 in
theorem do_calls (x : Cl) (w : World) (b n : Nat) (f : Wd) (hm : MapW w b n f) (hn : n < 1000) (hk : x.key.size ≤ maxLen) (hop : x.op = 1 ∨ x.op = 2) (he : x.e = 0 ∨ x.e = 7) (ho : Rd w x.out) (hf : ∀ s, f x.key = some s → Rd w s) :
    Calls Try.prog 12 #[.map (some b), .agg x.cells.toArray] w fun e w' => e = .returned (.bool (okF f x)) ∧ MapW w' b (n + 1) (doF f x) ∧ Ch w w' (fun k => k = b) := by
  have c1 := (Ch.refl w (fun _ => False)).alloc (.cells x.cells.toArray 29)
  have HM := Aside0.mk (hm.Ch c1 (fun h => h))
  have C1 := Aside0.mk c1
  have HO := Aside0.mk (ho.Ch c1)
  have HF := Aside0.mk (fun s hs => (hf s hs).Ch c1)
  have HM0 := Aside0.mk hm
  have HK := Aside0.mk hk
  clear c1 hm hf ho hk
  rcases hop with hop | hop
  · rcases he with he | he
    · have hg : okF f x = true := by simp [okF, hop]
      have hd : doF f x = f.put x.key x.data := by simp [doF, hop, he]
      rw [hg, hd]
      simp only [Cl.cells, hop, he] at C1 HO HF HM ⊢
      go_enter Try.func12, Try.ntmps12
      go_wp2_with (at_mapUpdate; go_must (refine step_put HM.out rfl _ _ _ rfl rfl (by unfold maxLen; omega) x.key x.data rfl rfl HK.out ?_; intro w1 hm1 hc1; have HM1 := Aside0.mk hm1; have C2 := Aside0.mk hc1; clear hm1 hc1))
      go_ret
      exact ⟨rfl, HM1.out, (C1.out.mono (fun _ h => h.elim)).then_ C2.out (fun _ h => Or.inl h)⟩
    · have hg : okF f x = true := by simp [okF, hop]
      have hd : doF f x = f := by simp [doF, he]
      rw [hg, hd]
      simp only [Cl.cells, hop, he] at C1 HO HF HM ⊢
      go_enter Try.func12, Try.ntmps12
      go_wp2_with fail
      go_ret
      exact ⟨rfl, HM.out.mono, C1.out.mono (fun _ h => h.elim)⟩
  · have hd : doF f x = f := by simp [doF, hop]
    rw [hd]
    by_cases ht : x.til = 0
    · have hg : okF f x = true := by simp [okF, ht]
      rw [hg]
      simp only [Cl.cells, hop, ht] at C1 HO HF HM ⊢
      go_enter Try.func12, Try.ntmps12
      go_wp2_with fail
      go_ret
      exact ⟨rfl, HM.out.mono, C1.out.mono (fun _ h => h.elim)⟩
    · have hg : okF f x = getF f x := by simp [okF, hop, ht]
      rw [hg]
      have ht' : decide (x.til = 0) = false := decide_eq_false ht
      have K := Aside0.mk (get_calls x _ b n f HM.out HK.out he HO.out HF.out)
      simp only [Cl.cells, hop] at C1 HO HF HM K ⊢
      go_enter Try.func12, Try.ntmps12
      go_wp2_with (go_at_call 16; go_must (refine K.out.mono ?_; rintro e w1 ⟨rfl, c2⟩; have C2 := Aside0.mk c2; clear c2))
      go_ret
      exact ⟨by simp [ht], (HM.out.Ch C2.out (fun h => h)).mono, (C1.out.then_ C2.out (fun _ h => h.elim)).mono (fun _ h => h.elim)⟩
end Go.Proofs.Ytjlmhppifjoijaa
