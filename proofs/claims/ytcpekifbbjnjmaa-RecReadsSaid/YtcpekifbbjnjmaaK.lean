/- How much a reader can have read; the same bytes. -/
import Derived.Test.YtcpekifbbjnjmaaJ
set_option linter.unusedVariables false
namespace Go.Proofs.Ytcpekifbbjnjmaa
open Go.RowKit Go.Proofs.YtcpekifbbjnjmaaW.PrintWords Go.Proofs.YtcpekifbbjnjmaaW.PrintLast Go.Proofs.YtcpekifbbjnjmaaW.PrintMore Go.Proofs.Ytcpekifbbjnjmaa.PRecBack
def Keeps {α : Type} (one : St → St × α) (P : α → Prop) : Prop := ∀ s, Byt s.1 → Byt (one s).1.1 ∧ P (one s).2
theorem takeP_byt (s : St) (n : Int) (h : Byt s.1) : Byt (takeP s n).1.1 ∧ Byt (takeP s n).2 := by
  unfold takeP
  split
  · exact ⟨h, byt_nil⟩
  · exact ⟨h.drop _, h.take _⟩
theorem numP_le (s : St) (z M : Int) (hz : (z = 1 ∧ M = 255) ∨ (z = 2 ∧ M = 65535)) (h : Byt s.1) : Byt (numP s z).1.1 ∧ 0 ≤ (numP s z).2 ∧ (numP s z).2 ≤ M := by
  obtain ⟨h1, h2⟩ := takeP_byt s z h
  have h3 := takeP_len s z
  obtain ⟨h4, h5⟩ := val_lt _ h2
  refine ⟨h1, h4, ?_⟩
  show val (takeP s z).2 ≤ M
  rcases hz with ⟨rfl, rfl⟩ | ⟨rfl, rfl⟩
  · have h6 : (2 : Int) ^ (8 * (takeP s 1).2.length) ≤ 2 ^ 8 := by
      have := Nat.pow_le_pow_right (n := 2) (by omega) (show 8 * (takeP s 1).2.length ≤ 8 by omega)
      exact_mod_cast this
    omega
  · have h6 : (2 : Int) ^ (8 * (takeP s 2).2.length) ≤ 2 ^ 16 := by
      have := Nat.pow_le_pow_right (n := 2) (by omega) (show 8 * (takeP s 2).2.length ≤ 16 by omega)
      exact_mod_cast this
    omega
theorem rowP_keeps {α : Type} {one : St → St × α} {P : α → Prop} (h : Keeps one P) : ∀ n, Keeps (rowP one n) (fun xs => xs.length ≤ n ∧ ∀ x ∈ xs, P x)
  | 0 => fun s hs => ⟨hs, Nat.le_refl _, fun x hx => by cases hx⟩
  | n + 1 => fun s hs => by
    obtain ⟨h1, h2⟩ := h s hs
    obtain ⟨h3, h4, h5⟩ := rowP_keeps h n _ h1
    unfold rowP
    split
    · exact ⟨hs, by simp, fun x hx => by cases hx⟩
    · refine ⟨h3, by simp only [List.length_cons]; omega, fun x hx => ?_⟩
      rcases List.mem_cons.1 hx with rfl | hx
      · exact h2
      · exact h5 x hx
theorem rowsP_keeps {α : Type} {one : St → St × α} {P : α → Prop} (h : Keeps one P) (z : Int) (M : Nat) (hz : (z = 1 ∧ M = 255) ∨ (z = 2 ∧ M = 65535)) : Keeps (rowsP one z) (fun xs => xs.length ≤ M ∧ ∀ x ∈ xs, P x) := fun s hs => by
  obtain ⟨h1, h2, h3⟩ := numP_le s z M (by rcases hz with ⟨rfl, rfl⟩ | ⟨rfl, rfl⟩ <;> simp) hs
  obtain ⟨h4, h5, h6⟩ := rowP_keeps h (numP s z).2.toNat _ h1
  exact ⟨h4, by unfold rowsP; omega, h6⟩
theorem wordP_keeps : Keeps wordP (fun _ => True) := fun s hs => ⟨(takeP_byt s 4 hs).1, trivial⟩
theorem strOf_size (l : List Int) : (strOfNums l).size = l.length := by
  unfold strOfNums
  simp [ByteArray.size]
theorem keyP_keeps : Keeps keyP (fun b => b.size ≤ 255) := fun s hs => by
  obtain ⟨h1, h2, h3⟩ := numP_le s 1 255 (by simp) hs
  obtain ⟨h4, h5⟩ := takeP_byt (numP s 1).1 (numP s 1).2 h1
  refine ⟨h4, ?_⟩
  show (strOfNums _).size ≤ 255
  rw [strOf_size]
  have := takeP_len (numP s 1).1 (numP s 1).2
  omega
theorem flat_len {α : Type} (enc : α → List Tok) (N : Nat) : ∀ l : List α, (∀ x ∈ l, (tb (enc x)).length ≤ N) → (tb (l.flatMap enc)).length ≤ l.length * N
  | [], _ => by simp [tb]
  | x :: l, h => by
    have h1 := h x (by simp)
    have h2 := flat_len enc N l (fun y hy => h y (by simp [hy]))
    rw [List.flatMap_cons, tb_append, List.length_append, List.length_cons, Nat.succ_mul]
    omega
theorem ints_len (l : List Int) : (tb (tInts l)).length ≤ 1 + l.length * 4 := by
  unfold tInts
  rw [ints_flat, tb_cons, List.length_append, num_len]
  have := flat_len (fun v => [word v]) 4 l (fun x _ => by rw [word1_len]; exact Nat.le_refl _)
  omega
theorem key_len (b : ByteArray) : (tb (tKey b)).length = 1 + b.size := by
  unfold tKey
  rw [tb_cons, tb_cons, tb_nil, List.append_nil, List.length_append, num_len, raw_len]
theorem stripe_len (s : S41) : (tb (tStripe s)).length = 8 + (tb (tInts s.f2)).length := by
  unfold tStripe
  rw [tb_cons, tb_cons, List.length_append, List.length_append, word_len, word_len]
  omega
theorem stripeP_keeps : Keeps stripeP (fun s => (tb (tStripe s)).length ≤ 1029) := fun s hs => by
  obtain ⟨h1, _⟩ := wordP_keeps s hs
  obtain ⟨h2, _⟩ := wordP_keeps _ h1
  obtain ⟨h3, h4, _⟩ := rowsP_keeps wordP_keeps 1 255 (by simp) _ h2
  refine ⟨h3, ?_⟩
  show (tb (tStripe (stripeP s).2)).length ≤ 1029
  rw [stripe_len]
  have h5 := ints_len (stripeP s).2.f2
  have h6 : (stripeP s).2.f2.length ≤ 255 := h4
  omega
theorem stripes_len (l : List S41) (N : Nat) (h : ∀ x ∈ l, (tb (tStripe x)).length ≤ N) : (tb (tStripes l)).length ≤ 1 + l.length * N := by
  unfold tStripes
  rw [tb_cons, List.length_append, num_len]
  have := flat_len tStripe N l h
  omega
theorem object_len (o : S44) : (tb (tObject o)).length = 1 + o.f0.size + 8 + (tb (tStripes o.f3)).length := by
  rw [(object_split o).1]
  simp only [List.length_append, word_len, key_len]
  omega
theorem objectP_keeps : Keeps objectP (fun o => (tb (tObject o)).length ≤ 262660) := fun s hs => by
  obtain ⟨h1, k1⟩ := keyP_keeps s hs
  obtain ⟨h2, _⟩ := wordP_keeps _ h1
  obtain ⟨h3, _⟩ := wordP_keeps _ h2
  obtain ⟨h4, h5, h6⟩ := rowsP_keeps stripeP_keeps 1 255 (by simp) _ h3
  refine ⟨h4, ?_⟩
  show (tb (tObject (objectP s).2)).length ≤ 262660
  rw [object_len]
  have h7 := stripes_len (objectP s).2.f3 1029 h6
  have h8 : (objectP s).2.f3.length ≤ 255 := h5
  have h9 : (objectP s).2.f0.size ≤ 255 := k1
  have h10 : (objectP s).2.f3.length * 1029 ≤ 255 * 1029 := Nat.mul_le_mul_right _ h8
  omega
theorem recP_room (s : St) (hs : Byt s.1) : (tb (tRec (recP s).2)).length ≤ 140737488355328 := by
  obtain ⟨h1, _⟩ := numP_le s 1 255 (by simp) hs
  obtain ⟨h2, _⟩ := wordP_keeps _ h1
  obtain ⟨h3, _⟩ := wordP_keeps _ h2
  obtain ⟨h4, k4⟩ := keyP_keeps _ h3
  obtain ⟨h5, h51, h52⟩ := rowsP_keeps stripeP_keeps 1 255 (by simp) _ h4
  obtain ⟨h6, h61, h62⟩ := rowsP_keeps objectP_keeps 2 65535 (by simp) _ h5
  obtain ⟨h7, h71, _⟩ := rowsP_keeps wordP_keeps 1 255 (by simp) _ h6
  have a1 : (recP s).2.key.size ≤ 255 := k4
  have a2 := stripes_len (recP s).2.stripes 1029 h52
  have a3 : (recP s).2.stripes.length * 1029 ≤ 255 * 1029 := Nat.mul_le_mul_right _ h51
  have a4 := flat_len tObject 262660 (recP s).2.objects h62
  have a5 : (recP s).2.objects.length * 262660 ≤ 65535 * 262660 := Nat.mul_le_mul_right _ h61
  have a6 := ints_len (recP s).2.drives
  have a7 : (recP s).2.drives.length ≤ 255 := h71
  rw [rec_len, key_len, obj_len]
  omega
theorem strOf_inj {a b : List Int} (ha : Byt a) (hb : Byt b) (h : (strOfNums a).toList = (strOfNums b).toList) : a = b := by
  have e : ∀ l : List Int, Byt l → (strOfNums l).toList.map (fun x : UInt8 => (x.toNat : Int)) = l := fun l hl => by
    unfold strOfNums
    have h1 : (ByteArray.mk (l.map fun n => UInt8.ofNat n.toNat).toArray).toList = l.map fun n => UInt8.ofNat n.toNat := by
      rw [ByteArray.toList_eq]
    rw [h1, List.map_map]
    conv => rhs; rw [← List.map_id l]
    apply List.map_congr_left
    intro x hx
    obtain ⟨h0, h1⟩ := hl x hx
    simp
    omega
  rw [← e a ha, ← e b hb, h]
theorem equal_any (A B : Option Addr) (m n c d : Nat) (xs ys : List Int) (w : World) (hm : m = xs.length) (hn : n = ys.length) (hmc : m ≤ c) (hnd : n ≤ d) (hA : B8.C w A m xs) (hB : B8.C w B n ys) (hx : Byt xs) (hy : Byt ys) :
    Calls Try.prog 33 #[.slice A m c, .slice B n d] w fun e w' => ∃ b, e = .returned (.bool b) ∧ Aside0 (b = true ↔ xs = ys) ∧ Aside0 (Below w.heap.size w w') := by
  subst hm
  subst hn
  refine (bytes_Equal.calls A c xs B d ys _ w hA hmc hB hnd rfl).mono ?_
  rintro e w' ⟨rfl, h⟩
  refine ⟨_, rfl, ⟨?_⟩, ⟨h.below⟩⟩
  rw [beq_iff_eq]
  exact ⟨fun e => strOf_inj hx hy e, fun e => by rw [e]⟩
end Go.Proofs.Ytcpekifbbjnjmaa
