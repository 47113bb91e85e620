/- What the two tapes have to do with each other: plain law. -/
import Derived.Test.YtgehempmccponaaL
import Derived.Lib.QuoteBits
set_option linter.unusedVariables false
namespace Go.Proofs.Ytgehempmccponaa
open Go.RowKit Go.Proofs.YtgehempmccponaaW.PrintWords Go.Proofs.YtgehempmccponaaW.PrintLast Go.Proofs.YtgehempmccponaaW.PrintMore
/-- The same side, but for what 'swap' says where nothing is loose. -/
structure SimS (s r : Sd) : Prop where
  b : s.b = r.b
  l : s.l = r.l
  wet : s.wet = r.wet
  lost : s.lost = r.lost
  swap : s.wet = true → s.swap = r.swap
structure Sim (t r : Tp) : Prop where
  s0 : SimS t.s0 r.s0
  s1 : SimS t.s1 r.s1
  fuse : t.fuse = r.fuse
  down : t.down = r.down
/-- After k acts. -/
structure Bd (t : Tp) (k : Nat) : Prop where
  b0 : t.s0.b.length ≤ 300 * k
  l0 : t.s0.l.length ≤ 300
  b1 : t.s1.b.length ≤ 300 * k
  l1 : t.s1.l.length ≤ 300
  f0 : -1 ≤ t.fuse
  f1 : t.fuse ≤ 9223372036854775807
theorem SimS.refl (s : Sd) : SimS s s := ⟨rfl, rfl, rfl, rfl, fun _ => rfl⟩
theorem sim_one {t r : Tp} (h : Sim t r) (n : Nat) (hn : n < 2) (bs : List Int) (swap : Bool) : Sim (oneF t n bs swap).1 (oneF r n bs swap).1 ∧ (oneF t n bs swap).2 = (oneF r n bs swap).2 := by
  obtain ⟨⟨h1, h2, h3, h4, h5⟩, ⟨g1, g2, g3, g4, g5⟩, hf, hd⟩ := h
  unfold oneF
  rw [hf]
  rcases n with _ | _ | n
  · split
    · exact ⟨⟨⟨h1, rfl, rfl, h4, fun _ => rfl⟩, ⟨g1, g2, g3, g4, g5⟩, hf, rfl⟩, rfl⟩
    · refine ⟨⟨⟨?_, h2, h3, h4, h5⟩, ⟨g1, g2, g3, g4, g5⟩, rfl, hd⟩, rfl⟩
      simp [Tp.put, Tp.side, h1]
  · split
    · exact ⟨⟨⟨h1, h2, h3, h4, h5⟩, ⟨g1, rfl, rfl, g4, fun _ => rfl⟩, hf, rfl⟩, rfl⟩
    · refine ⟨⟨⟨h1, h2, h3, h4, h5⟩, ⟨?_, g2, g3, g4, g5⟩, rfl, hd⟩, rfl⟩
      simp [Tp.put, Tp.side, g1]
  · omega
theorem sim_turn {t r : Tp} (h : Sim t r) (n : Nat) (hn : n < 2) (bs : List Int) (swap : Bool) : Sim (turnF t n bs swap).1 (turnF r n bs swap).1 ∧ (turnF t n bs swap).2 = (turnF r n bs swap).2 := by
  have e : (t.side n).lost = (r.side n).lost := by
    rcases n with _ | _ | n
    · exact h.s0.lost
    · exact h.s1.lost
    · omega
  unfold turnF
  rw [e]
  split
  · exact ⟨h, rfl⟩
  · exact sim_one h n hn bs swap
theorem sim_write {t r : Tp} (h : Sim t r) (bs : List Int) (swap : Bool) : Sim (writeF t bs swap).1 (writeF r bs swap).1 ∧ (writeF t bs swap).2 = (writeF r bs swap).2 := by
  have a0 := sim_turn h 0 (by omega) bs swap
  have a1 := sim_turn a0.1 1 (by omega) bs swap
  unfold writeF
  rw [h.down, h.s0.lost, h.s1.lost, a0.2, a1.2]
  split
  · exact ⟨h, rfl⟩
  · split
    · exact ⟨h, rfl⟩
    · split
      · exact ⟨a0.1, rfl⟩
      · split
        · exact ⟨a1.1, rfl⟩
        · exact ⟨a1.1, rfl⟩
theorem and_one_i64 (n : Int) : bits .and .i64 n 1 = n % 2 := by
  show IntKind.i64.wrap ((BitVec.ofInt 64 n &&& BitVec.ofInt 64 1).toNat : Int) = _
  have h1 : (BitVec.ofInt 64 1).toNat = 1 := by decide
  rw [BitVec.toNat_and, h1, Nat.and_one_is_mod, BitVec.toNat_ofInt, IntKind.wrap_i64]
  omega
theorem odd_of (keep : Int) : odd keep = !decide (keep.tmod 2 = 0) := by
  unfold odd
  rw [and_one_i64]
  have h : (keep % 2 = 1) ↔ ¬ keep.tmod 2 = 0 := by
    have h1 := Int.mul_tdiv_add_tmod keep 2
    have h2 : keep.tmod 2 = 0 ∨ keep.tmod 2 = 1 ∨ keep.tmod 2 = -1 := by
      have h3 := Int.natAbs_tmod keep 2
      have h4 : keep.natAbs % Int.natAbs 2 < 2 := Nat.mod_lt _ (by decide)
      omega
    omega
  by_cases hk : keep.tmod 2 = 0
  · have : ¬ keep % 2 = 1 := fun e => h.1 e hk
    simp [hk, this]
  · have := h.2 hk
    simp [hk, this]
theorem sim_crashS {s r : Sd} (h : SimS s r) (keep : Int) : SimS (crashS s keep) (rcrashS r keep) := by
  obtain ⟨h1, h2, h3, h4, h5⟩ := h
  refine ⟨?_, rfl, rfl, h4, fun e => by cases e⟩
  unfold crashS rcrashS Sd.upto
  dsimp only
  rw [← h3, ← h1, ← h2, odd_of]
  cases hw : s.wet with
  | false => rfl
  | true =>
    rw [← h5 hw]
    cases s.swap with
    | false => rfl
    | true =>
      by_cases hk : keep.tmod 2 = 0 <;> simp [hk]
theorem sim_crash {t r : Tp} (h : Sim t r) (keep : Int) : Sim (crashF t keep) (rcrashF r keep) := ⟨sim_crashS h.s0 keep, sim_crashS h.s1 keep, rfl, rfl⟩
theorem sim_fuse {t r : Tp} (h : Sim t r) (n : Int) : Sim (fuseF t n) (fuseF r n) := ⟨h.s0, h.s1, rfl, h.down⟩
theorem sim_lose {t r : Tp} (h : Sim t r) (n : Nat) (hn : n < 2) : Sim (loseF t n) (loseF r n) := by
  rcases n with _ | _ | n
  · exact ⟨SimS.refl _, h.s1, h.fuse, h.down⟩
  · exact ⟨h.s0, SimS.refl _, h.fuse, h.down⟩
  · omega
def rspoilF (t : Tp) (n : Nat) (bs : List Int) : Tp := t.put n ⟨bs, [], false, false, (t.side n).lost⟩
theorem sim_spoil {t r : Tp} (h : Sim t r) (n : Nat) (hn : n < 2) (bs : List Int) : Sim (spoilF t n bs) (rspoilF r n bs) := by
  rcases n with _ | _ | n
  · exact ⟨⟨rfl, rfl, rfl, h.s0.lost, fun e => by cases e⟩, h.s1, h.fuse, h.down⟩
  · exact ⟨h.s0, ⟨rfl, rfl, rfl, h.s1.lost, fun e => by cases e⟩, h.fuse, h.down⟩
  · omega
/-- What Read tells is what All tells, of all that is loose. -/
theorem sim_all {s r : Sd} (h : SimS s r) (keep : Int) (h0 : (r.l.length : Int) ≤ keep) (h1 : keep.tmod 2 ≠ 0) : s.all = r.upto keep := by
  obtain ⟨e1, e2, e3, e4, e5⟩ := h
  unfold Sd.all Sd.upto
  rw [← e3, ← e1]
  cases hw : s.wet with
  | false => rfl
  | true =>
    rw [← e5 hw]
    cases s.swap with
    | false =>
      have : r.l.take (clamp keep r.l.length) = r.l := by
        apply List.take_of_length_le
        unfold clamp
        split
        · omega
        · split <;> omega
      simp [this, e2]
    | true => simp [h1, e2]
theorem bd_one {t : Tp} {k : Nat} (h : Bd t k) (n : Nat) (hn : n < 2) (bs : List Int) (swap : Bool) (hb : bs.length ≤ 300) :
    (oneF t n bs swap).1.s0.b.length ≤ t.s0.b.length + (if n = 0 then 300 else 0) ∧ (oneF t n bs swap).1.s0.l.length ≤ 300 ∧ (oneF t n bs swap).1.s1.b.length ≤ t.s1.b.length + (if n = 1 then 300 else 0) ∧ (oneF t n bs swap).1.s1.l.length ≤ 300 ∧ -1 ≤ (oneF t n bs swap).1.fuse ∧ (oneF t n bs swap).1.fuse ≤ 9223372036854775807 := by
  obtain ⟨h1, h2, h3, h4, h5, h6⟩ := h
  unfold oneF
  rcases n with _ | _ | n
  · split
    · simp [Tp.put, Tp.side]; omega
    · simp [Tp.put, Tp.side]; refine ⟨?_, h2, h4, ?_, ?_⟩
      · split <;> simp <;> omega
      · split <;> omega
      · split <;> omega
  · split
    · simp [Tp.put, Tp.side]; omega
    · simp [Tp.put, Tp.side]; refine ⟨h2, ?_, h4, ?_, ?_⟩
      · split <;> simp <;> omega
      · split <;> omega
      · split <;> omega
  · omega
theorem bd_turn {t : Tp} {k : Nat} (h : Bd t k) (n : Nat) (hn : n < 2) (bs : List Int) (swap : Bool) (hb : bs.length ≤ 300) :
    (turnF t n bs swap).1.s0.b.length ≤ t.s0.b.length + (if n = 0 then 300 else 0) ∧ (turnF t n bs swap).1.s0.l.length ≤ 300 ∧ (turnF t n bs swap).1.s1.b.length ≤ t.s1.b.length + (if n = 1 then 300 else 0) ∧ (turnF t n bs swap).1.s1.l.length ≤ 300 ∧ -1 ≤ (turnF t n bs swap).1.fuse ∧ (turnF t n bs swap).1.fuse ≤ 9223372036854775807 := by
  unfold turnF
  split
  · obtain ⟨h1, h2, h3, h4, h5, h6⟩ := h
    exact ⟨Nat.le_add_right _ _, h2, Nat.le_add_right _ _, h4, h5, h6⟩
  · exact bd_one h n hn bs swap hb
theorem bd_write {t : Tp} {k : Nat} (h : Bd t k) (bs : List Int) (swap : Bool) (hb : bs.length ≤ 300) : Bd (writeF t bs swap).1 (k + 1) := by
  have h' := h
  obtain ⟨h1, h2, h3, h4, h5, h6⟩ := h'
  obtain ⟨a1, a2, a3, a4, a5, a6⟩ := bd_turn h 0 (by omega) bs swap hb
  have hk : Bd (turnF t 0 bs swap).1 (k + 1) := ⟨by simp at a1; omega, a2, by simp at a3; omega, a4, a5, a6⟩
  obtain ⟨b1, b2, b3, b4, b5, b6⟩ := bd_turn hk 1 (by omega) bs swap hb
  have hk2 : Bd (turnF (turnF t 0 bs swap).1 1 bs swap).1 (k + 1) := ⟨by simp at a1 b1; omega, b2, by simp at a3 b3; omega, b4, b5, b6⟩
  have h0 : Bd t (k + 1) := ⟨by omega, h2, by omega, h4, h5, h6⟩
  unfold writeF
  split
  · exact h0
  · split
    · exact h0
    · split
      · exact hk
      · split
        · exact hk2
        · exact hk2
theorem bd_crash {t : Tp} {k : Nat} (h : Bd t k) (keep : Int) : Bd (crashF t keep) (k + 1) := by
  obtain ⟨h1, h2, h3, h4, h5, h6⟩ := h
  have key : ∀ s : Sd, s.b.length ≤ 300 * k → s.l.length ≤ 300 → (crashS s keep).b.length ≤ 300 * (k + 1) := by
    intro s a b
    simp only [crashS]
    split
    · omega
    · split
      · rw [List.length_append, List.length_take]; omega
      · split <;> omega
  exact ⟨key _ h1 h2, by simp [crashF, crashS], key _ h3 h4, by simp [crashF, crashS], by simp [crashF], by simp [crashF]⟩
theorem bd_fuse {t : Tp} {k : Nat} (h : Bd t k) (n : Int) (h0 : n ≤ 9223372036854775807) : Bd (fuseF t n) (k + 1) := by
  obtain ⟨h1, h2, h3, h4, h5, h6⟩ := h
  refine ⟨?_, h2, ?_, h4, ?_, ?_⟩
  · show t.s0.b.length ≤ _; omega
  · show t.s1.b.length ≤ _; omega
  · simp only [fuseF]; split <;> omega
  · simp only [fuseF]; split <;> omega
theorem bd_lose {t : Tp} {k : Nat} (h : Bd t k) (n : Nat) (hn : n < 2) : Bd (loseF t n) (k + 1) := by
  obtain ⟨h1, h2, h3, h4, h5, h6⟩ := h
  rcases n with _ | _ | n
  · exact ⟨by simp [loseF, Tp.put], by simp [loseF, Tp.put], by simp [loseF, Tp.put]; omega, by simpa [loseF, Tp.put] using h4, h5, h6⟩
  · exact ⟨by simp [loseF, Tp.put]; omega, by simpa [loseF, Tp.put] using h2, by simp [loseF, Tp.put], by simp [loseF, Tp.put], h5, h6⟩
  · omega
theorem bd_spoil {t : Tp} {k : Nat} (h : Bd t k) (n : Nat) (hn : n < 2) (bs : List Int) (hb : bs.length ≤ 300) : Bd (spoilF t n bs) (k + 1) := by
  obtain ⟨h1, h2, h3, h4, h5, h6⟩ := h
  rcases n with _ | _ | n
  · exact ⟨by simp [spoilF, Tp.put]; omega, by simp [spoilF, Tp.put], by simp [spoilF, Tp.put]; omega, by simpa [spoilF, Tp.put] using h4, h5, h6⟩
  · exact ⟨by simp [spoilF, Tp.put]; omega, by simpa [spoilF, Tp.put] using h2, by simp [spoilF, Tp.put]; omega, by simp [spoilF, Tp.put], h5, h6⟩
  · omega
theorem bd_same {t : Tp} {k : Nat} (h : Bd t k) : Bd t (k + 1) := by
  obtain ⟨h1, h2, h3, h4, h5, h6⟩ := h
  exact ⟨by omega, h2, by omega, h4, h5, h6⟩
theorem Sim.bd {t r : Tp} {k : Nat} (h : Sim t r) (hb : Bd t k) : Bd r k := by
  obtain ⟨h1, h2, h3, h4, h5, h6⟩ := hb
  rw [h.s0.b] at h1
  rw [h.s0.l] at h2
  rw [h.s1.b] at h3
  rw [h.s1.l] at h4
  rw [h.fuse] at h5 h6
  exact ⟨h1, h2, h3, h4, h5, h6⟩
end Go.Proofs.Ytgehempmccponaa
