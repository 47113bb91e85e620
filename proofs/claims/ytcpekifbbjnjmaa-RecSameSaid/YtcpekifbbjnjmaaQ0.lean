/- A record that came in, opened. -/
import Derived.Test.YtcpekifbbjnjmaaOs
import Derived.Test.YtcpekifbbjnjmaaR1
set_option linter.unusedVariables false
namespace Go.Proofs.Ytcpekifbbjnjmaa
open Go.RowKit Go.Proofs.YtcpekifbbjnjmaaW.PrintWords Go.Proofs.YtcpekifbbjnjmaaW.PrintLast Go.Proofs.YtcpekifbbjnjmaaW.PrintMore Go.Proofs.Ytcpekifbbjnjmaa.PRecBack
theorem OpensS.weaken {P : Program} {t : TypeId} {α : Type} {d : Kd α} {Q S Q' S' : α → Prop} {m m' : α → Nat} (h : OpensS P t d Q S m) (hQ : ∀ a, Q a → Q' a) (hS : ∀ a, S a → S' a) (hm : ∀ a, m' a ≤ m a) : OpensS P t d Q' S' m' :=
  ⟨fun hx => by
    obtain ⟨a, h1, h2, h3, h4⟩ := h.op hx
    exact ⟨a, h1, hQ a h2, fun hw => hS a (h3 hw), Nat.le_trans (hm a) h4⟩⟩
def mI (l : List Int) : Nat := l.length + 1
def mS (s : S41) : Nat := 2 + mI s.f2
def mSs (l : List S41) : Nat := (l.map mS).sum + 1
def mO (o : S44) : Nat := o.f0.size + 3 + mSs o.f3
def mOs (l : List S44) : Nat := (l.map mO).sum + 1
def mR (r : Rc) : Nat := r.key.size + 4 + mSs r.stripes + mOs r.objects + mI r.drives
def sI (l : List Int) : Prop := l.length ≤ 140737488355328
def sS (l : List S41) : Prop := l.length ≤ 140737488355328 ∧ ∀ x ∈ l, sI x.f2
def sO (l : List S44) : Prop := l.length ≤ 140737488355328 ∧ ∀ x ∈ l, sS x.f3
theorem sum_one (l : List Int) : (l.map (fun _ => 1)).sum = l.length := by
  induction l with
  | nil => rfl
  | cons x l ih => simp only [List.map_cons, List.sum_cons, ih, List.length_cons]; omega
theorem opens24 : OpensS Try.prog 24 (Kd.slice 3 I64) (fun _ => True) sI mI :=
  (opensS_slice Try.underlying24 (by kernel_rfl) (B := 8) (by kernel_rfl) (opensS_int Try.underlying3) 3).weaken (fun _ _ => trivial) (fun a h => by unfold sI; omega) (fun a => by rw [sum_one]; exact Nat.le_refl _)
theorem opens41 : OpensS Try.prog 41 k41 (fun _ => True) (fun s => sI s.f2) mS :=
  (opensS_iso (opensS_struct Try.underlying41 (by kernel_rfl) (opensSF_cons rfl (by kernel_rfl) (opensS_int Try.underlying3) (opensSF_cons rfl (by kernel_rfl) (opensS_int Try.underlying3) (opensSF_one rfl (by kernel_rfl) opens24)))) (fun x : S41 => (x.f0, x.f1, x.f2)) (fun y => ⟨y.1, y.2.1, y.2.2⟩) (fun _ => rfl)).weaken (fun _ _ => trivial) (fun a h => h.2.2) (fun a => by unfold mS; simp; omega)
theorem opens22 : OpensS Try.prog 22 (Kd.slice 41 k41) (fun _ => True) sS mSs :=
  (opensS_slice Try.underlying22 (by kernel_rfl) (B := 40) (by kernel_rfl) opens41 41).weaken (fun _ _ => trivial) (fun a h => ⟨by have := h.1; omega, h.2⟩) (fun a => Nat.le_refl _)
theorem opens44 : OpensS Try.prog 44 k44 (fun _ => True) (fun o => sS o.f3) mO :=
  (opensS_iso (opensS_struct Try.underlying44 (by kernel_rfl) (opensSF_cons rfl (by kernel_rfl) (opensS_string Try.underlying9) (opensSF_cons rfl (by kernel_rfl) (opensS_int Try.underlying3) (opensSF_cons rfl (by kernel_rfl) (opensS_int Try.underlying3) (opensSF_one rfl (by kernel_rfl) opens22))))) (fun x : S44 => (x.f0, x.f1, x.f2, x.f3)) (fun y => ⟨y.1, y.2.1, y.2.2.1, y.2.2.2⟩) (fun _ => rfl)).weaken (fun _ _ => trivial) (fun a h => h.2.2.2) (fun a => by unfold mO; simp; omega)
theorem opens23 : OpensS Try.prog 23 (Kd.slice 44 k44) (fun _ => True) sO mOs :=
  (opensS_slice Try.underlying23 (by kernel_rfl) (B := 56) (by kernel_rfl) opens44 44).weaken (fun _ _ => trivial) (fun a h => ⟨by have := h.1; omega, h.2⟩) (fun a => Nat.le_refl _)
def k26 : Kd Rc := Kd.iso (Kd.pair I64 (Kd.pair I64 (Kd.pair I64 (Kd.pair Kd.string (Kd.pair (Kd.slice 41 k41) (Kd.pair (Kd.slice 44 k44) (Kd.slice 3 I64))))))) (fun x : Rc => (x.kind, x.id, x.size, x.key, x.stripes, x.objects, x.drives))
theorem opens26 : OpensS Try.prog 26 k26 (fun _ => True) (fun r => sS r.stripes ∧ sO r.objects ∧ sI r.drives) mR :=
  (opensS_iso (opensS_struct Try.underlying26 (by kernel_rfl) (opensSF_cons rfl (by kernel_rfl) (opensS_int Try.underlying3) (opensSF_cons rfl (by kernel_rfl) (opensS_int Try.underlying3) (opensSF_cons rfl (by kernel_rfl) (opensS_int Try.underlying3) (opensSF_cons rfl (by kernel_rfl) (opensS_string Try.underlying9) (opensSF_cons rfl (by kernel_rfl) opens22 (opensSF_cons rfl (by kernel_rfl) opens23 (opensSF_one rfl (by kernel_rfl) opens24)))))))) (fun x : Rc => (x.kind, x.id, x.size, x.key, x.stripes, x.objects, x.drives)) (fun y => ⟨y.1, y.2.1, y.2.2.1, y.2.2.2.1, y.2.2.2.2.1, y.2.2.2.2.2.1, y.2.2.2.2.2.2⟩) (fun _ => rfl)).weaken (fun _ _ => trivial) (fun a h => ⟨h.2.2.2.2.1, h.2.2.2.2.2.1, h.2.2.2.2.2.2⟩) (fun a => by unfold mR; simp; omega)
theorem k26_open {w : World} {r : Rc} {cs : List Value} (h : k26.K w r cs) : ∃ v4 v5 v6 : Sl, cs = [.int .i64 r.kind, .int .i64 r.id, .int .i64 r.size, .string r.key, .slice v4.A v4.n v4.c, .slice v5.A v5.n v5.c, .slice v6.A v6.n v6.c] ∧ RecAt w r v4 v5 v6 := by
  obtain ⟨_, _, rfl, rfl, _, _, rfl, rfl, _, _, rfl, rfl, _, _, rfl, rfl, _, _, rfl, ⟨A4, c4, rfl, l4, h4⟩, _, _, rfl, ⟨A5, c5, rfl, l5, h5⟩, A6, c6, rfl, l6, h6⟩ := h
  exact ⟨⟨A4, r.stripes.length, c4⟩, ⟨A5, r.objects.length, c5⟩, ⟨A6, r.drives.length, c6⟩, rfl, ⟨rfl, l4, h4, rfl, l5, h5, rfl, l6, h6⟩⟩
theorem own : ownKnob Try.prog.godebug = none := by kernel_rfl
theorem laidOut : laidOutB Try.prog = true := by kernel_rfl
theorem mod_of {r : Rc} (h : sS r.stripes ∧ sO r.objects ∧ sI r.drives) : Mod r :=
  ⟨h.1.1, h.1.2, h.2.1.1, fun x hx => (h.2.1.2 x hx).1, fun x hx => (h.2.1.2 x hx).2, h.2.2⟩
theorem flat_sum {α : Type} (enc : α → List Tok) (m : α → Nat) : ∀ l : List α, (∀ x ∈ l, (tb (enc x)).length ≤ 4 * m x) → (tb (l.flatMap enc)).length ≤ 4 * (l.map m).sum
  | [], _ => by simp [tb]
  | x :: l, h => by
    have h1 := h x (by simp)
    have h2 := flat_sum enc m l (fun y hy => h y (by simp [hy]))
    rw [List.flatMap_cons, tb_append, List.length_append, List.map_cons, List.sum_cons]
    omega
theorem len_I (l : List Int) : (tb (tInts l)).length ≤ 4 * mI l := by
  have := ints_len l
  unfold mI
  omega
theorem len_S (s : S41) : (tb (tStripe s)).length ≤ 4 * mS s := by
  rw [stripe_len]
  have := len_I s.f2
  unfold mS
  omega
theorem len_Ss (l : List S41) : (tb (tStripes l)).length ≤ 4 * mSs l := by
  unfold tStripes mSs
  rw [tb_cons, List.length_append, num_len]
  have := flat_sum tStripe mS l (fun x _ => len_S x)
  omega
theorem len_O (o : S44) : (tb (tObject o)).length ≤ 4 * mO o := by
  rw [object_len]
  have := len_Ss o.f3
  unfold mO
  omega
theorem len_R (r : Rc) : (tb (tRec r)).length ≤ 4 * mR r := by
  rw [rec_len, key_len, obj_len]
  have h1 := len_Ss r.stripes
  have h2 := flat_sum tObject mO r.objects (fun x _ => len_O x)
  have h3 := len_I r.drives
  unfold mR mOs
  omega
theorem sum_le {α : Type} (m : α → Nat) : ∀ (l : List α), ∀ x ∈ l, m x ≤ (l.map m).sum
  | y :: l, x, hx => by
    rw [List.map_cons, List.sum_cons]
    rcases List.mem_cons.1 hx with rfl | hx
    · omega
    · have := sum_le m l x hx
      omega
theorem len_le {α : Type} (m : α → Nat) (hm : ∀ x, 1 ≤ m x) : ∀ (l : List α), l.length ≤ (l.map m).sum
  | [] => by simp
  | x :: l => by
    have h1 := hm x
    have h2 := len_le m hm l
    rw [List.map_cons, List.sum_cons, List.length_cons]
    omega
theorem small_S (l : List S41) (h : mSs l ≤ 1048576) : sS l := by
  have h1 := len_le mS (fun x => by unfold mS; omega) l
  unfold mSs at h
  refine ⟨by omega, fun x hx => ?_⟩
  have := sum_le mS l x hx
  unfold mS mI at this
  unfold sI
  unfold mS mI at h
  omega
theorem small_O (l : List S44) (h : mOs l ≤ 1048576) : sO l := by
  have h1 := len_le mO (fun x => by unfold mO; omega) l
  unfold mOs at h
  refine ⟨by omega, fun x hx => small_S _ ?_⟩
  have := sum_le mO l x hx
  unfold mO at this
  unfold mO at h
  omega
theorem mod_bulk {r : Rc} (h : mR r ≤ 1048576) : Mod r := by
  unfold mR at h
  exact mod_of ⟨small_S _ (by omega), small_O _ (by omega), by unfold sI; unfold mI at h; omega⟩
/-- A record that came in: its cells; within reach its lists are of some length; its bulk bounds its bytes. -/
theorem rec_in {H : Type} {enc : TypeId × Value → H} {w : World} {base : Nat} {spare : Nat → Bool} {held : Bool} {fuel : Nat} {cs : Array Value} {x : DataW H × List MemPlace}
    (h : DataW.trod enc Try.prog w base spare held fuel 26 cs.toList = some x) : ∃ (r : Rc) (v4 v5 v6 : Sl), cs = #[.int .i64 r.kind, .int .i64 r.id, .int .i64 r.size, .string r.key, .slice v4.A v4.n v4.c, .slice v5.A v5.n v5.c, .slice v6.A v6.n v6.c] ∧ RecAt w r v4 v5 v6 ∧
      ((∀ n ∈ x.1.weights Try.prog 26, n ≤ reachBytes) → Mod r) ∧ (Rows.uptoBulk x.1 ≤ 1048576 → Mod r ∧ (tb (tRec r)).length ≤ 140737488355328) := by
  obtain ⟨r, hK, _, hS, hm⟩ := opens26.op h
  obtain ⟨v4, v5, v6, hcs, hra⟩ := k26_open hK
  have hcs' : cs = #[.int .i64 r.kind, .int .i64 r.id, .int .i64 r.size, .string r.key, .slice v4.A v4.n v4.c, .slice v5.A v5.n v5.c, .slice v6.A v6.n v6.c] := by
    have : cs.toList = (#[.int .i64 r.kind, .int .i64 r.id, .int .i64 r.size, .string r.key, .slice v4.A v4.n v4.c, .slice v5.A v5.n v5.c, .slice v6.A v6.n v6.c] : Array Value).toList := hcs
    exact Array.toList_inj.1 this
  refine ⟨r, v4, v5, v6, hcs', hra, fun hw => mod_of (hS hw), fun hb => ⟨mod_bulk (by omega), ?_⟩⟩
  have := len_R r
  omega
/-- Bytes that came in. -/
theorem bytes_in {H : Type} {enc : TypeId × Value → H} {w : World} {base : Nat} {spare : Nat → Bool} {held : Bool} {fuel : Nat} {a : Option Addr} {len cap : Nat} {x : DataW H × List MemPlace}
    (h : DataW.trod enc Try.prog w base spare held fuel 29 [.slice a len cap] = some x) : ∃ bs, BytesAt w a len cap bs ∧ Byt bs := by
  obtain ⟨bs, ⟨A, c, hcs, hl, hC⟩, hq, _, _⟩ := (opensS_slice Try.underlying29 (by kernel_rfl) (B := 1) (by kernel_rfl) (opensS_int Try.underlying5) 5).op h
  obtain ⟨rfl, rfl, rfl⟩ : a = A ∧ len = bs.length ∧ cap = c := by simpa using hcs
  refine ⟨bs, ⟨rfl, hl, hC⟩, fun x hx => ?_⟩
  have := hq x hx
  simp [Lit.wf, IntKind.min, IntKind.max, IntKind.signed, IntKind.bits] at this
  omega
end Go.Proofs.Ytcpekifbbjnjmaa
