/- The two tapes, the bytes handed in and the act, beside each other. -/
import Derived.Test.YtgehempmccponaaM
set_option linter.unusedVariables false
namespace Go.Proofs.Ytgehempmccponaa
open Go.RowKit Go.Proofs.YtgehempmccponaaW.PrintWords Go.Proofs.YtgehempmccponaaW.PrintLast Go.Proofs.YtgehempmccponaaW.PrintMore
theorem TapeR.later {w w' : World} {base g : Nat} {ok S : Nat → Prop} {t : Tp} (h : TapeR w base ok g t) (hc : Ch w w' S) (hg : ¬ S g) (hn : ∀ k, ok k → ¬ S k) : TapeR w' base ok g t := by
  obtain ⟨v, hb, hr⟩ := h
  exact ⟨v, hc.blk hb hg, hr.ch hc hn⟩
theorem TapeM.over {w w' : World} {base b : Nat} {ok : Nat → Prop} {g ty : Nat} {t : Tp} {cs : Array Value} (h : TapeM w base ok g t) (hb : w.heap[b]? = some (.cells cs ty (0, 0))) (h1 : 49 ≠ ty) (h2 : 5 ≠ ty) (hc : Ch w w' (fun j => j = b)) : TapeM w' base ok g t := by
  obtain ⟨v, hg, hr⟩ := h
  exact ⟨v, hc.blk hg (blk_ne hg hb h1), hr.keep hb h2 hc⟩
theorem TapeR.over {w w' : World} {base b : Nat} {ok : Nat → Prop} {g ty : Nat} {t : Tp} {cs : Array Value} (h : TapeR w base ok g t) (hb : w.heap[b]? = some (.cells cs ty (0, 0))) (h1 : 32 ≠ ty) (h2 : 5 ≠ ty) (hc : Ch w w' (fun j => j = b)) : TapeR w' base ok g t := by
  obtain ⟨v, hg, hr⟩ := h
  exact ⟨v, hc.blk hg (blk_ne hg hb h1), hr.keep hb h2 hc⟩
structure St (w : World) (g h lb : Nat) (lcs : Array Value) (base0 : Nat) (vin : Value) (bs : List Int) (t r : Tp) (W : World) : Prop where
  gb : w.heap.size ≤ g
  hb : w.heap.size ≤ h
  m : TapeM W w.heap.size (fun j => ¬ vin.ownBlock = some j) g t
  r : TapeR W w.heap.size (fun j => ¬ vin.ownBlock = some j) h r
  i : B8.R 5 W base0 (fun _ => True) vin bs
  c : Ch w W (fun _ => False)
  l : W.heap[lb]? = some (.cells lcs 34 (0, 0))
section
variable {w : World} {g h lb : Nat} {lcs : Array Value} {base0 : Nat} {vin : Value} {bs : List Int} {t t' r r' : Tp} {W W' : World}
theorem St.later (s : St w g h lb lcs base0 vin bs t r W) (hc : Ch W W' (fun _ => False)) : St w g h lb lcs base0 vin bs t r W' :=
  ⟨s.gb, s.hb, s.m.later hc (fun h => h) (fun _ _ h => h), s.r.later hc (fun h => h) (fun _ _ h => h), hc.R s.i (fun _ _ h => h), s.c.then_ hc (fun _ h => h.elim), hc.blk s.l (fun h => h)⟩
theorem St.ok (s : St w g h lb lcs base0 vin bs t r W) (k : Nat) (hk : ¬ vin.ownBlock = some k ∨ W.heap.size ≤ k) : ¬ vin.ownBlock = some k := by
  rcases hk with hk | hk
  · exact hk
  · intro e
    have := Kd.R_lt s.i k e
    omega
theorem St.stepM (s : St w g h lb lcs base0 vin bs t r W) (hm : TapeM W' w.heap.size (fun k => ¬ vin.ownBlock = some k ∨ W.heap.size ≤ k) g t') (hc : Ch W W' (fun j => j = g)) : St w g h lb lcs base0 vin bs t' r W' := by
  obtain ⟨v, hg, hr⟩ := s.m
  exact ⟨s.gb, s.hb, hm.mono (s.ok), s.r.over hg (by decide) (by decide) hc, row_keep s.i hg (by decide) hc, s.c.then_ hc (fun k hk => .inr (by rw [hk]; exact s.gb)), hc.blk s.l (blk_ne s.l hg (by decide))⟩
theorem St.stepR (s : St w g h lb lcs base0 vin bs t r W) (hm : TapeR W' w.heap.size (fun k => ¬ vin.ownBlock = some k ∨ W.heap.size ≤ k) h r') (hc : Ch W W' (fun j => j = h)) : St w g h lb lcs base0 vin bs t r' W' := by
  obtain ⟨v, hg, hr⟩ := s.r
  exact ⟨s.gb, s.hb, s.m.over hg (by decide) (by decide) hc, hm.mono (s.ok), row_keep s.i hg (by decide) hc, s.c.then_ hc (fun k hk => .inr (by rw [hk]; exact s.hb)), hc.blk s.l (blk_ne s.l hg (by decide))⟩
theorem St.C_in {A : Option Addr} {n c : Nat} (s : St w g h lb lcs base0 (.slice A n c) bs t r W) (hc : Ch W W' (fun j => j = g)) : B8.C W' A n bs := by
  obtain ⟨v, hg, hr⟩ := s.m
  exact C_of_row s.i hg (by decide) hc
theorem St.append {A : Option Addr} {n c k : Nat} (s : St w g h lb lcs base0 (.slice A n c) bs t r W) (hbd : Bd t k) (hk : k ≤ 200) (hl : bs.length ≤ 300) :
    Calls Try.prog 6 #[.pointer (some ⟨g, 0, none⟩), .slice A n c] W fun e W' => e = .returned (.int .i64 (writeF t bs false).2) ∧ St w g h lb lcs base0 (.slice A n c) bs (writeF t bs false).1 r W' := by
  obtain rfl : bs.length = n := (Kd.R_reads' s.i).1.symm
  refine (append_calls g t A c bs W w.heap.size _ s.m (fun w' hc => s.C_in hc) (by have := hbd.b0; omega) (by have := hbd.b1; omega) hbd.f0 hbd.f1 (by omega) s.c.size).mono ?_
  rintro e W' ⟨rfl, hm, hc⟩
  exact ⟨rfl, s.stepM hm hc⟩
theorem St.replace {A : Option Addr} {n c k : Nat} (s : St w g h lb lcs base0 (.slice A n c) bs t r W) (hbd : Bd t k) (hk : k ≤ 200) (hl : bs.length ≤ 300) :
    Calls Try.prog 8 #[.pointer (some ⟨g, 0, none⟩), .slice A n c] W fun e W' => e = .returned (.int .i64 (writeF t bs true).2) ∧ St w g h lb lcs base0 (.slice A n c) bs (writeF t bs true).1 r W' := by
  obtain rfl : bs.length = n := (Kd.R_reads' s.i).1.symm
  refine (replace_calls g t A c bs W w.heap.size _ s.m (fun w' hc => s.C_in hc) (by have := hbd.b0; omega) (by have := hbd.b1; omega) hbd.f0 hbd.f1 (by omega) s.c.size).mono ?_
  rintro e W' ⟨rfl, hm, hc⟩
  exact ⟨rfl, s.stepM hm hc⟩
theorem St.rwrite {B : Option Addr} {m d k : Nat} (s : St w g h lb lcs base0 vin bs t r W) (ys : List Int) (swap : Bool) (hB : B8.C w B m ys) (hbd : Bd r k) (hk : k ≤ 200) (hl : ys.length ≤ 300) :
    Calls Try.prog 7 #[.pointer (some ⟨h, 0, none⟩), .slice B m d, .bool swap] W fun e W' => e = .returned (.int .i64 (writeF r ys swap).2) ∧ St w g h lb lcs base0 vin bs t (writeF r ys swap).1 W' := by
  refine (rwrite_calls h r B m d ys swap W w.heap.size _ s.r (fun w' hc => Kd.C_below hB ((s.c.then_ hc (fun k hk => .inr (by rw [hk]; exact s.hb))).quiet (fun _ h => h.elim))) (by have := hbd.b0; omega) (by have := hbd.b1; omega) hbd.f0 hbd.f1 (by omega) s.c.size).mono ?_
  rintro e W' ⟨rfl, hm, hc⟩
  exact ⟨rfl, s.stepR hm hc⟩
theorem St.fuse (s : St w g h lb lcs base0 vin bs t r W) (n : Int) :
    Calls Try.prog 9 #[.pointer (some ⟨g, 0, none⟩), .int .i64 n] W fun e W' => e = .returned (.tuple #[]) ∧ St w g h lb lcs base0 vin bs (fuseF t n) r W' := by
  refine (fuse_calls g t n W w.heap.size _ s.m).mono ?_
  rintro e W' ⟨rfl, hm, hc⟩
  exact ⟨rfl, s.stepM hm hc⟩
theorem St.crash {k : Nat} (s : St w g h lb lcs base0 vin bs t r W) (n : Int) (hbd : Bd t k) (hk : k ≤ 200) :
    Calls Try.prog 10 #[.pointer (some ⟨g, 0, none⟩), .int .i64 n] W fun e W' => e = .returned (.tuple #[]) ∧ St w g h lb lcs base0 vin bs (crashF t n) r W' := by
  refine (crash_calls g t n W w.heap.size _ s.m (by have := hbd.b0; omega) (by have := hbd.l0; omega) (by have := hbd.b1; omega) (by have := hbd.l1; omega) s.c.size).mono ?_
  rintro e W' ⟨rfl, hm, hc⟩
  exact ⟨rfl, s.stepM hm hc⟩
theorem St.rcrash {k : Nat} (s : St w g h lb lcs base0 vin bs t r W) (n : Int) (hbd : Bd r k) (hk : k ≤ 200) :
    Calls Try.prog 11 #[.pointer (some ⟨h, 0, none⟩), .int .i64 n] W fun e W' => e = .returned (.tuple #[]) ∧ St w g h lb lcs base0 vin bs t (rcrashF r n) W' := by
  refine (rcrash_calls h r n W w.heap.size _ s.r (by have := hbd.b0; omega) (by have := hbd.l0; omega) (by have := hbd.b1; omega) (by have := hbd.l1; omega) s.c.size).mono ?_
  rintro e W' ⟨rfl, hm, hc⟩
  exact ⟨rfl, s.stepR hm hc⟩
theorem St.lose (s : St w g h lb lcs base0 vin bs t r W) (n : Nat) (hn : n < 2) (ni : Int) (hni : ni = (n : Int)) :
    Calls Try.prog 12 #[.pointer (some ⟨g, 0, none⟩), .int .i64 ni] W fun e W' => e = .returned (.tuple #[]) ∧ St w g h lb lcs base0 vin bs (loseF t n) r W' := by
  subst hni
  refine (lose_some g n t W w.heap.size _ s.m hn).mono ?_
  rintro e W' ⟨rfl, hm, hc⟩
  exact ⟨rfl, s.stepM hm hc⟩
theorem St.spoil {A : Option Addr} {m c : Nat} (s : St w g h lb lcs base0 (.slice A m c) bs t r W) (n : Nat) (hn : n < 2) (ni : Int) (hni : ni = (n : Int)) (hl : bs.length ≤ 300) :
    Calls Try.prog 13 #[.pointer (some ⟨g, 0, none⟩), .int .i64 ni, .slice A m c] W fun e W' => e = .returned (.tuple #[]) ∧ St w g h lb lcs base0 (.slice A m c) bs (spoilF t n bs) r W' := by
  obtain rfl : bs.length = m := (Kd.R_reads' s.i).1.symm
  subst hni
  refine (spoil_some g n t A c bs W w.heap.size _ s.m hn (s.C_in (Ch.refl _ _)) (by omega) s.c.size).mono ?_
  rintro e W' ⟨rfl, hm, hc⟩
  exact ⟨rfl, s.stepM hm hc⟩
/-- A cell of the reference's tape that is a number or a truth. -/
theorem St.setFuse (s : St w g h lb lcs base0 vin bs t r W) (n : Int) : St w g h lb lcs base0 vin bs t { r with fuse := n } (W.setCell ⟨h, 10, none⟩ (.int .i64 n)) := by
  obtain ⟨v, hg, hr⟩ := s.r
  have C := (Ch.refl W (fun j => j = h)).setCell (p := ⟨h, 10, none⟩) (.inl rfl) (.int .i64 n)
  have R := (hr.keep hg (by decide) C).mono (ok' := fun k => ¬ vin.ownBlock = some k ∨ W.heap.size ≤ k) (fun _ h => .inl h)
  exact s.stepR ⟨v, blk_set hg 10 _, ⟨R.b0, R.l0, R.b1, R.l1⟩⟩ C
def side5 (W : World) (h o : Nat) (vb vl : Value) (wet swap lost : Bool) : World :=
  ((((W.setCell ⟨h, o, none⟩ vb).setCell ⟨h, o + 1, none⟩ vl).setCell ⟨h, o + 2, none⟩ (.bool wet)).setCell ⟨h, o + 3, none⟩ (.bool swap)).setCell ⟨h, o + 4, none⟩ (.bool lost)
theorem ch_side5 (W : World) (h o : Nat) (vb vl : Value) (wet swap lost : Bool) : Ch W (side5 W h o vb vl wet swap lost) (fun j => j = h) :=
  (((((Ch.refl W (fun j => j = h)).setCell (p := ⟨h, o, none⟩) (.inl rfl) vb).setCell (p := ⟨h, o + 1, none⟩) (.inl rfl) vl).setCell (p := ⟨h, o + 2, none⟩) (.inl rfl) (.bool wet)).setCell (p := ⟨h, o + 3, none⟩) (.inl rfl) (.bool swap)).setCell (p := ⟨h, o + 4, none⟩) (.inl rfl) (.bool lost)
/-- A side of the reference's tape is another. -/
theorem St.setSide (s : St w g h lb lcs base0 vin bs t r W) (n : Nat) (hn : n < 2) (vb vl : Value) (sd : Sd) (hvb : B8.R 5 W w.heap.size (fun k => ¬ vin.ownBlock = some k ∨ W.heap.size ≤ k) vb sd.b) (hvl : B8.R 5 W w.heap.size (fun k => ¬ vin.ownBlock = some k ∨ W.heap.size ≤ k) vl sd.l) :
    St w g h lb lcs base0 vin bs t (r.put n sd) (side5 W h (5 * n) vb vl sd.wet sd.swap sd.lost) := by
  obtain ⟨v, hg, hr⟩ := s.r
  have C := ch_side5 W h (5 * n) vb vl sd.wet sd.swap sd.lost
  have R := (hr.keep hg (by decide) C).mono (ok' := fun k => ¬ vin.ownBlock = some k ∨ W.heap.size ≤ k) (fun _ h => .inl h)
  have N1 := row_keep hvb hg (by decide) C
  have N2 := row_keep hvl hg (by decide) C
  rcases n with _ | _ | n
  · exact s.stepR ⟨{ v with b0 := vb, l0 := vl }, blk_set (blk_set (blk_set (blk_set (blk_set hg 0 _) 1 _) 2 _) 3 _) 4 _, ⟨N1, N2, R.b1, R.l1⟩⟩ C
  · exact s.stepR ⟨{ v with b1 := vb, l1 := vl }, blk_set (blk_set (blk_set (blk_set (blk_set hg 5 _) 6 _) 7 _) 8 _) 9 _, ⟨R.b0, R.l0, N1, N2⟩⟩ C
  · omega
end
end Go.Proofs.Ytgehempmccponaa
