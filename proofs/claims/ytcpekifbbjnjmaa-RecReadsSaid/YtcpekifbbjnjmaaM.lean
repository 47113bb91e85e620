/- Which records are the same: the printed functions' answers. -/
import Derived.Test.YtcpekifbbjnjmaaL
import Derived.Test.YtcpekifbbjnjmaaPRecBackx1
import Derived.Test.YtcpekifbbjnjmaaPRecBackx6
set_option linter.unusedVariables false
namespace Go.Proofs.Ytcpekifbbjnjmaa
open Go.RowKit Go.Proofs.YtcpekifbbjnjmaaW.PrintWords Go.Proofs.YtcpekifbbjnjmaaW.PrintLast Go.Proofs.YtcpekifbbjnjmaaW.PrintMore Go.Proofs.Ytcpekifbbjnjmaa.PRecBack
theorem w64 (i : Nat) (h : i < 9223372036854775807) : wrap64 ((i : Int) + 1) = ((i + 1 : Nat) : Int) := by unfold wrap64; omega
theorem rd_at (l : List Int) (i : Nat) (h : i < l.length) : rd l (i : Int) = l[i] := by simp [rd, h]
theorem rd41 (l : List S41) (i : Nat) (h : i < l.length) : rd_T41 l (i : Int) = l[i] := by simp [rd_T41, h]
theorem rd44 (l : List S44) (i : Nat) (h : i < l.length) : rd_T44 l (i : Int) = l[i] := by simp [rd_T44, h]
theorem drop_iff {α : Type} (a b : List α) (i : Nat) (ha : i < a.length) (hb : i < b.length) : a.drop i = b.drop i ↔ a[i] = b[i] ∧ a.drop (i + 1) = b.drop (i + 1) := by
  rw [List.drop_eq_getElem_cons ha, List.drop_eq_getElem_cons hb]
  constructor
  · intro h
    injection h with h1 h2
    exact ⟨h1, h2⟩
  · rintro ⟨h1, h2⟩
    rw [h1, h2]
def Len (l : List Int) : Prop := l.length ≤ 9223372036854775807
/-- The three that hold numbers against each other. -/
theorem ints_l0 (a b : List Int) (hl : a.length = b.length) (hm : Len a) : ∀ (d i k : Nat), i + d = a.length → d < k → ∃ r, flittingref09_Ints.l0 k a b i = some r ∧ (r = true ↔ a.drop i = b.drop i)
  | 0, i, k, hi, hk => by
    obtain ⟨k, rfl⟩ : ∃ m, k = m + 1 := ⟨k - 1, by omega⟩
    refine ⟨true, ?_, by rw [List.drop_of_length_le (by omega), List.drop_of_length_le (by omega)]; simp⟩
    rw [flittingref09_Ints.l0, if_neg (by omega)]
  | d + 1, i, k, hi, hk => by
    unfold Len at hm
    obtain ⟨k, rfl⟩ : ∃ m, k = m + 1 := ⟨k - 1, by omega⟩
    rw [flittingref09_Ints.l0, if_pos (by omega), if_pos (by omega), if_pos (by omega), rd_at a i (by omega), rd_at b i (by omega), drop_iff a b i (by omega) (by omega), w64 i (by omega)]
    by_cases h : a[i]'(by omega) = b[i]'(by omega)
    · rw [if_pos h]
      obtain ⟨r, h1, h2⟩ := ints_l0 a b hl hm d (i + 1) k (by omega) (by omega)
      exact ⟨r, h1, by rw [h2]; simp [h]⟩
    · rw [if_neg h]
      exact ⟨false, rfl, by simp [h]⟩
theorem ints_f (a b : List Int) (hm : Len a) (k : Nat) (hk : a.length < k) : ∃ r, flittingref09_Ints.f k a b = some r ∧ (r = true ↔ a = b) := by
  unfold flittingref09_Ints.f
  by_cases hl : a.length = b.length
  · rw [if_pos (by omega)]
    have := ints_l0 a b hl hm a.length 0 k (by omega) hk
    simpa using this
  · rw [if_neg (by omega)]
    exact ⟨false, rfl, by simp; intro e; exact hl (by rw [e])⟩
theorem same_l0 (a b : List Int) (hl : a.length = b.length) (hm : Len a) : ∀ (d i k : Nat), i + d = a.length → d < k → ∃ r, flittingref01_Same.l0 k a b i = some r ∧ (r = true ↔ a.drop i = b.drop i)
  | 0, i, k, hi, hk => by
    obtain ⟨k, rfl⟩ : ∃ m, k = m + 1 := ⟨k - 1, by omega⟩
    refine ⟨true, ?_, by rw [List.drop_of_length_le (by omega), List.drop_of_length_le (by omega)]; simp⟩
    rw [flittingref01_Same.l0, if_neg (by omega)]
  | d + 1, i, k, hi, hk => by
    unfold Len at hm
    obtain ⟨k, rfl⟩ : ∃ m, k = m + 1 := ⟨k - 1, by omega⟩
    rw [flittingref01_Same.l0, if_pos (by omega), if_pos (by omega), if_pos (by omega), rd_at a i (by omega), rd_at b i (by omega), drop_iff a b i (by omega) (by omega), w64 i (by omega)]
    by_cases h : a[i]'(by omega) = b[i]'(by omega)
    · rw [if_pos h]
      obtain ⟨r, h1, h2⟩ := same_l0 a b hl hm d (i + 1) k (by omega) (by omega)
      exact ⟨r, h1, by rw [h2]; simp [h]⟩
    · rw [if_neg h]
      exact ⟨false, rfl, by simp [h]⟩
theorem same_f (a b : List Int) (hm : Len a) (k : Nat) (hk : a.length < k) : ∃ r, flittingref01_Same.f k a b = some r ∧ (r = true ↔ a = b) := by
  unfold flittingref01_Same.f
  by_cases hl : a.length = b.length
  · rw [if_pos (by omega)]
    have := same_l0 a b hl hm a.length 0 k (by omega) hk
    simpa using this
  · rw [if_neg (by omega)]
    exact ⟨false, rfl, by simp; intro e; exact hl (by rw [e])⟩
theorem equal_l0 (a b : List Int) (hl : a.length = b.length) (hm : Len a) : ∀ (d i k : Nat), i + d = a.length → d < k → ∃ r, slices_Equal_int_int.l0 k a b a.length i = some r ∧ (r = true ↔ a.drop i = b.drop i)
  | 0, i, k, hi, hk => by
    obtain ⟨k, rfl⟩ : ∃ m, k = m + 1 := ⟨k - 1, by omega⟩
    refine ⟨true, ?_, by rw [List.drop_of_length_le (by omega), List.drop_of_length_le (by omega)]; simp⟩
    rw [slices_Equal_int_int.l0, if_neg (by omega)]
  | d + 1, i, k, hi, hk => by
    unfold Len at hm
    obtain ⟨k, rfl⟩ : ∃ m, k = m + 1 := ⟨k - 1, by omega⟩
    rw [slices_Equal_int_int.l0, if_pos (by omega), if_pos (by omega), if_pos (by omega), if_pos (by omega), rd_at a i (by omega), rd_at b i (by omega), drop_iff a b i (by omega) (by omega), w64 i (by omega)]
    by_cases h : a[i]'(by omega) = b[i]'(by omega)
    · rw [if_pos h]
      obtain ⟨r, h1, h2⟩ := equal_l0 a b hl hm d (i + 1) k (by omega) (by omega)
      exact ⟨r, h1, by rw [h2]; simp [h]⟩
    · rw [if_neg h]
      exact ⟨false, rfl, by simp [h]⟩
theorem equal_f (a b : List Int) (hm : Len a) (k : Nat) (hk : a.length < k) : ∃ r, slices_Equal_int_int.f k a b = some r ∧ (r = true ↔ a = b) := by
  unfold slices_Equal_int_int.f
  by_cases hl : a.length = b.length
  · rw [if_pos (by omega)]
    have := equal_l0 a b hl hm a.length 0 k (by omega) hk
    simpa using this
  · rw [if_neg (by omega)]
    exact ⟨false, rfl, by simp; intro e; exact hl (by rw [e])⟩
theorem s41_eq (x y : S41) : x = y ↔ x.f0 = y.f0 ∧ x.f1 = y.f1 ∧ x.f2 = y.f2 := by
  cases x
  cases y
  simp
theorem s44_eq (x y : S44) : x = y ↔ x.f0 = y.f0 ∧ x.f1 = y.f1 ∧ x.f2 = y.f2 ∧ x.f3 = y.f3 := by
  cases x
  cases y
  simp
theorem rc_eq (x y : Rc) : x = y ↔ x.kind = y.kind ∧ x.id = y.id ∧ x.size = y.size ∧ x.key = y.key ∧ x.stripes = y.stripes ∧ x.objects = y.objects ∧ x.drives = y.drives := by
  cases x
  cases y
  simp
theorem str_eq (a b : ByteArray) : a.toList = b.toList ↔ a = b := by
  constructor
  · intro h
    rw [ByteArray.toList_eq, ByteArray.toList_eq] at h
    exact Go.WideShapes.bytes_inj h
  · intro h
    rw [h]
theorem stripe_f (x y : S41) (hm : Len x.f2) (k : Nat) (hk : x.f2.length < k) : ∃ r, rec_Stripe.f k x.f0 x.f1 x.f2 y.f0 y.f1 y.f2 = some r ∧ (r = true ↔ x = y) := by
  rw [s41_eq]
  unfold rec_Stripe.f
  by_cases h0 : x.f0 = y.f0
  · rw [if_pos h0]
    by_cases h1 : x.f1 = y.f1
    · rw [if_pos h1]
      obtain ⟨r, e, hr⟩ := equal_f x.f2 y.f2 hm k hk
      exact ⟨r, by rw [e]; rfl, by rw [hr]; simp [h0, h1]⟩
    · rw [if_neg h1]
      exact ⟨false, rfl, by simp [h1]⟩
  · rw [if_neg h0]
    exact ⟨false, rfl, by simp [h0]⟩
def LenS (l : List S41) : Prop := l.length ≤ 9223372036854775807 ∧ ∀ x ∈ l, Len x.f2
theorem stripes_l0 (a b : List S41) (hl : a.length = b.length) (hm : LenS a) : ∀ (d i k : Nat), i + d = a.length → d + 9223372036854775807 < k → ∃ r, flittingref09_Stripes.l0 k a b i = some r ∧ (r = true ↔ a.drop i = b.drop i)
  | 0, i, k, hi, hk => by
    obtain ⟨k, rfl⟩ : ∃ m, k = m + 1 := ⟨k - 1, by omega⟩
    refine ⟨true, ?_, by rw [List.drop_of_length_le (by omega), List.drop_of_length_le (by omega)]; simp⟩
    rw [flittingref09_Stripes.l0, if_neg (by omega)]
  | d + 1, i, k, hi, hk => by
    obtain ⟨hm1, hm2⟩ := hm
    obtain ⟨k, rfl⟩ : ∃ m, k = m + 1 := ⟨k - 1, by omega⟩
    have hi1 : i < a.length := by omega
    have hlx := hm2 a[i] (List.getElem_mem hi1)
    rw [flittingref09_Stripes.l0, if_pos (by omega), if_pos (by omega), if_pos (by omega), rd41 a i (by omega), rd41 b i (by omega), drop_iff a b i (by omega) (by omega), w64 i (by omega), s41_eq]
    by_cases h0 : (a[i]'(by omega)).f0 = (b[i]'(by omega)).f0
    · rw [if_pos h0]
      by_cases h1 : (a[i]'(by omega)).f1 = (b[i]'(by omega)).f1
      · rw [if_pos h1]
        obtain ⟨r, e, hr⟩ := ints_f (a[i]'(by omega)).f2 (b[i]'(by omega)).f2 hlx k (by unfold Len at hlx; omega)
        rw [e]
        simp only [Option.bind_some]
        cases r with
        | true =>
          rw [if_pos rfl]
          obtain ⟨r, h2, h3⟩ := stripes_l0 a b hl ⟨hm1, hm2⟩ d (i + 1) k (by omega) (by omega)
          exact ⟨r, h2, by rw [h3]; simp [h0, h1, hr.1 rfl]⟩
        | false =>
          rw [if_neg (by simp)]
          refine ⟨false, rfl, ?_⟩
          have : ¬ (a[i]'(by omega)).f2 = (b[i]'(by omega)).f2 := fun e => by have := hr.2 e; cases this
          simp [this]
      · rw [if_neg h1]
        exact ⟨false, rfl, by simp [h1]⟩
    · rw [if_neg h0]
      exact ⟨false, rfl, by simp [h0]⟩
theorem stripes_f (a b : List S41) (hm : LenS a) (k : Nat) (hk : 9223372036854775807 + 9223372036854775807 < k) : ∃ r, flittingref09_Stripes.f k a b = some r ∧ (r = true ↔ a = b) := by
  unfold flittingref09_Stripes.f
  by_cases hl : a.length = b.length
  · rw [if_pos (by omega)]
    have := stripes_l0 a b hl hm a.length 0 k (by omega) (by have := hm.1; omega)
    simpa using this
  · rw [if_neg (by omega)]
    exact ⟨false, rfl, by simp; intro e; exact hl (by rw [e])⟩
def LenO (l : List S44) : Prop := l.length ≤ 9223372036854775807 ∧ ∀ x ∈ l, LenS x.f3
theorem objects_l0 (a b : List S44) (hl : a.length = b.length) (hm : LenO a) : ∀ (d i k : Nat), i + d = a.length → d + 9223372036854775807 + 9223372036854775807 < k → ∃ r, flittingref09_Objects.l0 k a b i = some r ∧ (r = true ↔ a.drop i = b.drop i)
  | 0, i, k, hi, hk => by
    obtain ⟨k, rfl⟩ : ∃ m, k = m + 1 := ⟨k - 1, by omega⟩
    refine ⟨true, ?_, by rw [List.drop_of_length_le (by omega), List.drop_of_length_le (by omega)]; simp⟩
    rw [flittingref09_Objects.l0, if_neg (by omega)]
  | d + 1, i, k, hi, hk => by
    obtain ⟨hm1, hm2⟩ := hm
    obtain ⟨k, rfl⟩ : ∃ m, k = m + 1 := ⟨k - 1, by omega⟩
    have hi1 : i < a.length := by omega
    have hlx := hm2 a[i] (List.getElem_mem hi1)
    rw [flittingref09_Objects.l0, if_pos (by omega), if_pos (by omega), if_pos (by omega), rd44 a i (by omega), rd44 b i (by omega), drop_iff a b i (by omega) (by omega), w64 i (by omega), s44_eq]
    by_cases h0 : (a[i]'(by omega)).f0 = (b[i]'(by omega)).f0
    · rw [if_pos ((str_eq _ _).2 h0)]
      by_cases h1 : (a[i]'(by omega)).f1 = (b[i]'(by omega)).f1
      · rw [if_pos h1]
        by_cases h2 : (a[i]'(by omega)).f2 = (b[i]'(by omega)).f2
        · rw [if_pos h2]
          obtain ⟨r, e, hr⟩ := stripes_f (a[i]'(by omega)).f3 (b[i]'(by omega)).f3 hlx k (by omega)
          rw [e]
          simp only [Option.bind_some]
          cases r with
          | true =>
            rw [if_pos rfl]
            obtain ⟨r, h3, h4⟩ := objects_l0 a b hl ⟨hm1, hm2⟩ d (i + 1) k (by omega) (by omega)
            exact ⟨r, h3, by rw [h4]; simp [h0, h1, h2, hr.1 rfl]⟩
          | false =>
            rw [if_neg (by simp)]
            refine ⟨false, rfl, ?_⟩
            have : ¬ (a[i]'(by omega)).f3 = (b[i]'(by omega)).f3 := fun e => by have := hr.2 e; cases this
            simp [this]
        · rw [if_neg h2]
          exact ⟨false, rfl, by simp [h2]⟩
      · rw [if_neg h1]
        exact ⟨false, rfl, by simp [h1]⟩
    · rw [if_neg (fun e => h0 ((str_eq _ _).1 e))]
      exact ⟨false, rfl, by simp [h0]⟩
theorem objects_f (a b : List S44) (hm : LenO a) (k : Nat) (hk : 9223372036854775807 + 9223372036854775807 + 9223372036854775807 < k) : ∃ r, flittingref09_Objects.f k a b = some r ∧ (r = true ↔ a = b) := by
  unfold flittingref09_Objects.f
  by_cases hl : a.length = b.length
  · rw [if_pos (by omega)]
    have := objects_l0 a b hl hm a.length 0 k (by omega) (by have := hm.1; omega)
    simpa using this
  · rw [if_neg (by omega)]
    exact ⟨false, rfl, by simp; intro e; exact hl (by rw [e])⟩
structure LenR (r : Rc) : Prop where
  s : LenS r.stripes
  o : LenO r.objects
  d : Len r.drives
theorem rsame_f (x y : Rc) (hm : LenR x) (k : Nat) (hk : 9223372036854775807 + 9223372036854775807 + 9223372036854775807 < k) :
    ∃ r, flittingref09_Same.f k x.kind x.id x.size x.key x.stripes x.objects x.drives y.kind y.id y.size y.key y.stripes y.objects y.drives = some r ∧ (r = true ↔ x = y) := by
  rw [rc_eq]
  unfold flittingref09_Same.f
  by_cases h0 : x.kind = y.kind
  · rw [if_pos h0]
    by_cases h1 : x.id = y.id
    · rw [if_pos h1]
      by_cases h2 : x.size = y.size
      · rw [if_pos h2]
        by_cases h3 : x.key = y.key
        · rw [if_pos ((str_eq _ _).2 h3)]
          obtain ⟨r, e, hr⟩ := stripes_f x.stripes y.stripes hm.s k (by omega)
          rw [e]
          simp only [Option.bind_some]
          cases r with
          | true =>
            rw [if_pos rfl]
            obtain ⟨r, e, hr2⟩ := objects_f x.objects y.objects hm.o k (by omega)
            rw [e]
            simp only [Option.bind_some]
            cases r with
            | true =>
              rw [if_pos rfl]
              obtain ⟨r, e, hr3⟩ := ints_f x.drives y.drives hm.d k (by have := hm.d; unfold Len at this; omega)
              rw [e]
              exact ⟨r, rfl, by rw [hr3]; simp [h0, h1, h2, h3, hr.1 rfl, hr2.1 rfl]⟩
            | false =>
              rw [if_neg (by simp)]
              refine ⟨false, rfl, ?_⟩
              have : ¬ x.objects = y.objects := fun e => by have := hr2.2 e; cases this
              simp [this]
          | false =>
            rw [if_neg (by simp)]
            refine ⟨false, rfl, ?_⟩
            have : ¬ x.stripes = y.stripes := fun e => by have := hr.2 e; cases this
            simp [this]
        · rw [if_neg (fun e => h3 ((str_eq _ _).1 e))]
          exact ⟨false, rfl, by simp [h3]⟩
      · rw [if_neg h2]
        exact ⟨false, rfl, by simp [h2]⟩
    · rw [if_neg h1]
      exact ⟨false, rfl, by simp [h1]⟩
  · rw [if_neg h0]
    exact ⟨false, rfl, by simp [h0]⟩
theorem lenS_of {w : World} {A : Option Addr} {l : List S41} (h : k41.C w A l.length l) : LenS l := ⟨h.2.1, fun x hx => by
  obtain ⟨i, hi, rfl⟩ := List.getElem_of_mem hx
  obtain ⟨ad, A2, c2, _, _, _, _, _, hC⟩ := at41 h i hi
  exact hC.2.1⟩
theorem lenO_of {w : World} {A : Option Addr} {l : List S44} (h : k44.C w A l.length l) : LenO l := ⟨h.2.1, fun x hx => by
  obtain ⟨i, hi, rfl⟩ := List.getElem_of_mem hx
  obtain ⟨ad, A3, c3, _, _, _, _, _, _, hC⟩ := at44 h i hi
  exact lenS_of hC⟩
theorem RecAt.len {w : World} {r : Rc} {v4 v5 v6 : Sl} (h : RecAt w r v4 v5 v6) : LenR r := by
  obtain ⟨e4, _, h4, e5, _, h5, e6, _, h6⟩ := h
  rw [e4] at h4
  rw [e5] at h5
  rw [e6] at h6
  exact ⟨lenS_of h4, lenO_of h5, h6.2.1⟩
theorem rsame_at (x y : Rc) (v4 v5 v6 u4 u5 u6 : Sl) (w : World) (h : RecAt w x v4 v5 v6) (h' : RecAt w y u4 u5 u6) :
    Calls Try.prog 14 #[.agg #[.int .i64 x.kind, .int .i64 x.id, .int .i64 x.size, .string x.key, .slice v4.A v4.n v4.c, .slice v5.A v5.n v5.c, .slice v6.A v6.n v6.c], .agg #[.int .i64 y.kind, .int .i64 y.id, .int .i64 y.size, .string y.key, .slice u4.A u4.n u4.c, .slice u5.A u5.n u5.c, .slice u6.A u6.n u6.c]] w
      fun e w' => ∃ b, e = .returned (.bool b) ∧ Aside0 (b = true ↔ x = y) ∧ Aside0 (Below w.heap.size w w') := by
  have hm := h.len
  obtain ⟨A4, n4, c4⟩ := v4
  obtain ⟨A5, n5, c5⟩ := v5
  obtain ⟨A6, n6, c6⟩ := v6
  obtain ⟨B4, m4, d4⟩ := u4
  obtain ⟨B5, m5, d5⟩ := u5
  obtain ⟨B6, m6, d6⟩ := u6
  obtain ⟨e4, l4, h4, e5, l5, h5, e6, l6, h6⟩ := h
  obtain ⟨f4, k4, g4, f5, k5, g5, f6, k6, g6⟩ := h'
  simp only at e4 e5 e6 h4 h5 h6 l4 l5 l6 f4 f5 f6 g4 g5 g6 k4 k5 k6 ⊢
  subst e4 e5 e6 f4 f5 f6
  obtain ⟨k, hk⟩ : ∃ k : Nat, 9223372036854775807 + 9223372036854775807 + 9223372036854775807 < k := ⟨_, Nat.lt_succ_self _⟩
  obtain ⟨r, e, hr⟩ := rsame_f x y hm k hk
  refine (flittingref09_Same.calls k _ _ _ _ A4 c4 _ A5 c5 _ A6 c6 _ _ _ _ _ B4 d4 _ B5 d5 _ B6 d6 _ r w h4 l4 h5 l5 h6 l6 g4 k4 g5 k5 g6 k6 e).mono ?_
  rintro e w' ⟨rfl, hb⟩
  exact ⟨r, rfl, ⟨hr⟩, ⟨hb⟩⟩
theorem same_any (A B : Option Addr) (m n c d : Nat) (xs ys : List Int) (w : World) (hm : m = xs.length) (hn : n = ys.length) (hmc : m ≤ c) (hnd : n ≤ d) (hA : B8.C w A m xs) (hB : B8.C w B n ys) :
    Calls Try.prog 12 #[.slice A m c, .slice B n d] w fun e w' => ∃ b, e = .returned (.bool b) ∧ Aside0 (b = true ↔ xs = ys) ∧ Aside0 (Below w.heap.size w w') := by
  subst hm
  subst hn
  obtain ⟨r, e, hr⟩ := same_f xs ys hA.2.1 (xs.length + 1) (by omega)
  refine (flittingref01_Same.calls (xs.length + 1) A c xs B d ys r w hA hmc hB hnd e).mono ?_
  rintro e w' ⟨rfl, h⟩
  exact ⟨_, rfl, ⟨hr⟩, ⟨h.below⟩⟩
end Go.Proofs.Ytcpekifbbjnjmaa
