/- Words of this seat's own: what a piece of a run may have changed ('Ch'), and the kit's laws of append told by it. -/
import Derived.Test.YtjlmhppifjoijaaProg
import Derived.WalkSpells
import Derived.WalkKit
import Derived.KernelRfl
import Derived.RowKit3
import Derived.Deep.LoopGhost
import Derived.Deep.QuietTactic
import Derived.BigQuiet
import Derived.WideLaws
import Derived.Deep.DeepCutAuto
import Derived.Deep.CutBlock
import Derived.Deep.RegionHeld3
import Derived.Laws.Rows
import Derived.Lib.AppendStr
import Derived.ArgAppend
import Derived.Laws.IdiomCopy
import Derived.OrdersHeld
import Derived.Laws.BitsLemmas
import Derived.Test.YtjlmhppifjoijaaWWords
import Derived.Test.YtjlmhppifjoijaaWLast
import Derived.Test.YtjlmhppifjoijaaWTab
import Derived.Test.YtjlmhppifjoijaaWFour
import Derived.Test.YtjlmhppifjoijaaWQPut
import Derived.Test.YtjlmhppifjoijaaWApart
import Derived.Test.YtjlmhppifjoijaaWArr
import Derived.Test.YtjlmhppifjoijaaWZeros
import Derived.Test.YtjlmhppifjoijaaWFoot
import Derived.Test.YtjlmhppifjoijaaWKept
import Derived.Test.YtjlmhppifjoijaaWShare
import Derived.Test.YtjlmhppifjoijaaWN
import Derived.Test.YtjlmhppifjoijaaWFootNe
import Derived.Test.YtjlmhppifjoijaaWAt
import Derived.Test.YtjlmhppifjoijaaWEqStruct
import Derived.Test.YtjlmhppifjoijaaWRepsOne
import Derived.Test.YtjlmhppifjoijaaWInv
import Derived.Test.YtjlmhppifjoijaaWInvWords
import Derived.Test.YtjlmhppifjoijaaWGuard
import Derived.Test.YtjlmhppifjoijaaWNEv
import Derived.Test.YtjlmhppifjoijaaWMore
set_option linter.unusedVariables false
namespace Go.Proofs.Ytjlmhppifjoijaa
open Go.RowKit Go.Proofs.YtjlmhppifjoijaaW.PrintWords Go.Proofs.YtjlmhppifjoijaaW.PrintLast Go.Proofs.YtjlmhppifjoijaaW.PrintMore
/-- W is w, later: new blocks, and of the old ones those in S may be others. -/
structure Ch (w W : World) (S : Nat → Prop) : Prop where
  os : W.os = w.os
  tape : W.tape = w.tape
  output : W.output = w.output
  size : w.heap.size ≤ W.heap.size
  block : ∀ i, i < w.heap.size → ¬ S i → W.heap[i]? = w.heap[i]?
namespace Ch
variable {w W W2 : World} {S S2 S' : Nat → Prop}
theorem refl (w : World) (S : Nat → Prop) : Ch w w S := ⟨rfl, rfl, rfl, Nat.le_refl _, fun _ _ _ => rfl⟩
theorem kept (h : Ch w W S) : Kept w W S := ⟨h.size, h.block⟩
theorem mono (h : Ch w W S) (hs : ∀ k, S k → S' k) : Ch w W S' := ⟨h.os, h.tape, h.output, h.size, fun i hi hn => h.block i hi (fun hk => hn (hs i hk))⟩
theorem then_ (h : Ch w W S) (k : Ch W W2 S2) (hs : ∀ k, S2 k → S k ∨ w.heap.size ≤ k) : Ch w W2 S :=
  ⟨k.os.trans h.os, k.tape.trans h.tape, k.output.trans h.output, Nat.le_trans h.size k.size,
    fun i hi hn => (k.block i (Nat.lt_of_lt_of_le hi h.size) (fun h2 => (hs i h2).elim hn (fun h3 => by omega))).trans (h.block i hi hn)⟩
theorem of_below (h : Below w.heap.size w W) (S : Nat → Prop) : Ch w W S := ⟨h.os, h.tape, h.output, h.size, fun i hi _ => h.block i hi⟩
theorem of_grown {row : Option Nat} (h : w.grownBy W row) : Ch w W (fun k => row = some k) := ⟨h.os, h.tape, h.output, h.size, fun i hi hn => h.block i hi (fun e => hn e.symm)⟩
theorem below (h : Ch w W S) {B : Nat} (hB : B ≤ w.heap.size) (hs : ∀ k, S k → B ≤ k) : Below B w W := ⟨h.os, h.tape, h.output, h.size, fun i hi => h.block i (by omega) (fun h2 => by have := hs i h2; omega)⟩
/-- Only new blocks. -/
theorem quiet (h : Ch w W S) (hs : ∀ k, S k → w.heap.size ≤ k) : Below w.heap.size w W := h.below (Nat.le_refl _) hs
theorem alloc (h : Ch w W S) (o : Obj) : Ch w (W.alloc o) S := h.then_ (of_below (below_alloc (Below.refl _ _) o) (fun _ => False)) (fun _ h => h.elim)
theorem drew (h : Ch w W S) : Ch w W.drew S := ⟨h.os, h.tape, h.output, h.size, h.block⟩
theorem drewN (h : Ch w W S) (m : Nat) : Ch w (W.drewN m) S := ⟨h.os, h.tape, h.output, h.size, h.block⟩
theorem setCell (h : Ch w W S) {p : Addr} (hp : S p.block ∨ w.heap.size ≤ p.block) (u : Value) : Ch w (W.setCell p u) S :=
  h.then_ (S2 := fun k => k = p.block) ⟨rfl, rfl, rfl, by simp [World.setCell], fun i _ hn => Below.heap_setCell W p u i hn⟩ (fun k hk => by rw [hk]; exact hp)
theorem blk {g : Nat} {o : Obj} (h : Ch w W S) (hb : w.heap[g]? = some o) (hn : ¬ S g) : W.heap[g]? = some o := (h.block g (blk_lt hb) hn).trans hb
theorem R {α : Type} {d : Kd α} {e base : Nat} {ok : Nat → Prop} {v : Value} {xs : List α} (h : Ch w W S) (hr : d.R e w base ok v xs) (hn : ∀ k, ok k → ¬ S k) : d.R e W base ok v xs := Kd.R_kept hr h.kept hn
theorem M {α : Type} {d : Kd α} {base : Nat} {ok : Nat → Prop} {x : α} {cs : List Value} (h : Ch w W S) (hr : d.M w base ok x cs) (hn : ∀ k, ok k → ¬ S k) : d.M W base ok x cs := Kd.M_kept hr h.kept hn
end Ch
theorem R_empty {α : Type} (d : Kd α) (e : Nat) (W : World) (base : Nat) (ok : Nat → Prop) (hb : base ≤ W.heap.size) (hok : ok W.heap.size) :
    d.R e (W.alloc (.cells #[] e)) base ok (.slice (some ⟨W.heap.size, 0, none⟩) 0 0) [] := by
  refine ⟨fun k hk => ?_, [], ?_, ?_⟩
  · have : W.heap.size = k := by simpa [Value.ownBlock] using hk
    exact this ▸ hok
  · have := World.ownsRow_lit (base := base) (e := e) (size := d.sz) W #[] 0 hb (by simp [maxLen]) (by simp)
    simpa using this
  · exact ⟨by simp, fun j p hp => by simp at hp⟩
/-- A row of the call's own, as it is read; its value is a slice. -/
theorem R_open {α : Type} {d : Kd α} {e base : Nat} {w : World} {ok : Nat → Prop} {v : Value} {xs : List α} (h : d.R e w base ok v xs) : ∃ A c, v = .slice A xs.length c ∧ xs.length ≤ c ∧ d.C w A xs.length xs := Kd.R_reads h
section
variable {α : Type} {P : Program} {ops : Array Oper} {rest : List Oper} {o : Oper} {a : Act} {Q : Exit → Act → World → Prop} {Kc : Act → World → Prop}
/-- append(v, ys...), v a row of the call's own, ys read. -/
theorem apR (d : Kd α) {Rr : α → List Value → Prop} {W : World} (base : Nat) (hgd : o.guard = none) (s x : Operand) (t e : TypeId) (z : Value) (bytes : Nat)
    (ho : o.op = .call { callee := .builtin .append, args := #[s, x], argTypes := #[t, t] })
    (ht : P.underlying t = some (.slice e)) (hinfo : (P.info? e).map (fun i => (i.zero, i.size, i.bytes)) = some (some z, d.sz, bytes)) (hz : z.cells.size = d.sz) (hs0 : 0 < d.sz) (hb0 : 0 < bytes)
    (v : Value) (xs ys : List α) (A : Option Addr) (m c : Nat) (ok okp : Nat → Prop) (hs : a.eval s = v) (hx : a.eval x = .slice A m c)
    (HO : d.R e W base ok v xs) (HR : ReadsRow Rr d.sz W A m ys) (hKM : ∀ x cs, Rr x cs → d.M W base okp x cs) (hokp : ∀ k, okp k → ok k ∧ some k ≠ v.ownBlock) (hfresh : ∀ k, W.heap.size ≤ k → ok k)
    (hbase : base ≤ W.heap.size) (hl : (xs.length + m) * bytes ≤ 140737488355328)
    (h : ∀ v1 w1, d.R e w1 base ok v1 (xs ++ ys) → Ch W w1 (fun k => v.ownBlock = some k) → (v1.ownBlock = v.ownBlock ∨ ∃ b, v1.ownBlock = some b ∧ W.heap.size ≤ b) → wpList P ops Q rest (a.put o.dst v1) w1) :
    wpList P ops Q (o :: rest) a W :=
  Kd.R_append_rows d (w0 := W) base hgd s x t e z bytes ho ht hinfo hz hs0 hb0 v xs ys A m c ok okp hs hx HO HR hKM hokp hfresh (Below.refl _ _) hbase hl fun v1 w1 hr _ hg hat => h v1 w1 hr (Ch.of_grown hg) hat
/-- append(v, x). -/
theorem apO (d : Kd α) {W : World} (base : Nat) (hgd : o.guard = none) (s x : Operand) (t e : TypeId) (z : Value) (bytes : Nat)
    (ho : o.op = .call { callee := .builtin .append, args := #[s, x], argTypes := #[t, t] })
    (ht : P.underlying t = some (.slice e)) (hinfo : (P.info? e).map (fun i => (i.zero, i.size, i.bytes)) = some (some z, d.sz, bytes)) (hz : z.cells.size = d.sz) (hs0 : 0 < d.sz) (hb0 : 0 < bytes)
    (v : Value) (xs : List α) (p : α) (cs : List Value) (ok okp : Nat → Prop) (hs : a.eval s = v) (hx : a.eval x = .slice (some ⟨W.heap.size, 0, none⟩) 1 1) (hp : d.M W base okp p cs) (hokp : ∀ k, okp k → ok k ∧ some k ≠ v.ownBlock) (hfresh : ∀ k, W.heap.size ≤ k → ok k)
    (HO : d.R e W base ok v xs) (hbase : base ≤ W.heap.size) (hl : (xs.length + 1) * bytes ≤ 140737488355328)
    (h : ∀ v1 w1, d.R e w1 base ok v1 (xs ++ [p]) → Ch W w1 (fun k => v.ownBlock = some k) → (v1.ownBlock = v.ownBlock ∨ ∃ b, v1.ownBlock = some b ∧ W.heap.size ≤ b) → wpList P ops Q rest (a.put o.dst v1) w1) :
    wpList P ops Q (o :: rest) a (W.alloc (.cells cs.toArray e)) :=
  Kd.R_append d (w0 := W) base hgd s x t e z bytes ho ht hinfo hz hs0 hb0 v xs p cs ok okp hs hx hp hokp hfresh HO (Below.refl _ _) hbase hl fun v1 w1 hr _ hg hat => h v1 w1 hr (Ch.of_grown hg) hat
end
end Go.Proofs.Ytjlmhppifjoijaa
