/- The program's Same. -/
import Derived.Test.YtcpekifbbjnjmaaM
set_option linter.unusedVariables false
namespace Go.Proofs.Ytcpekifbbjnjmaa
open Go.RowKit Go.Proofs.YtcpekifbbjnjmaaW.PrintWords Go.Proofs.YtcpekifbbjnjmaaW.PrintLast Go.Proofs.YtcpekifbbjnjmaaW.PrintMore Go.Proofs.Ytcpekifbbjnjmaa.PRecBack
/-- A truth that says whether two are the same; nothing old is changed. -/
def Says (p : Prop) (w : World) (e : Ending) (w' : World) : Prop := ∃ b, e = .returned (.bool b) ∧ Aside0 (b = true ↔ p) ∧ Aside0 (Below w.heap.size w w')
theorem stripe_any (x y : S41) (A B : Option Addr) (m c n d : Nat) (w : World) (hm : m = x.f2.length) (hmc : m ≤ c) (hA : I64.C w A m x.f2) (hn : n = y.f2.length) (hnd : n ≤ d) (hB : I64.C w B n y.f2) :
    Calls Try.prog 38 #[.agg #[.int .i64 x.f0, .int .i64 x.f1, .slice A m c], .agg #[.int .i64 y.f0, .int .i64 y.f1, .slice B n d]] w (Says (x = y) w) := by
  subst hm
  subst hn
  obtain ⟨r, e, hr⟩ := stripe_f x y hA.2.1 (x.f2.length + 1) (by omega)
  refine (rec_Stripe.calls (x.f2.length + 1) _ _ A c _ _ _ B d _ r w hA hmc hB hnd e).mono ?_
  rintro e w' ⟨rfl, hb⟩
  exact ⟨r, rfl, ⟨hr⟩, ⟨hb⟩⟩
theorem equalI_any (A B : Option Addr) (m n c d : Nat) (xs ys : List Int) (w : World) (hm : m = xs.length) (hn : n = ys.length) (hmc : m ≤ c) (hnd : n ≤ d) (hA : I64.C w A m xs) (hB : I64.C w B n ys) :
    Calls Try.prog 41 #[.slice A m c, .slice B n d] w (Says (xs = ys) w) := by
  subst hm
  subst hn
  obtain ⟨r, e, hr⟩ := equal_f xs ys hA.2.1 (xs.length + 1) (by omega)
  refine (slices_Equal_int_int.calls (xs.length + 1) A c xs B d ys r w hA hmc hB hnd e).mono ?_
  rintro e w' ⟨rfl, h⟩
  exact ⟨_, rfl, ⟨hr⟩, ⟨h.below⟩⟩
set_option maxHeartbeats 4000000 in
theorem equalT_calls (A B : Option Addr) (m n c d : Nat) (xs ys : List S41) (w : World) (hm : m = xs.length) (hn : n = ys.length) (hA : k41.C w A m xs) (hB : k41.C w B n ys) :
    Calls Try.prog 37 #[.slice A m c, .slice B n d, .func (.func 38) #[] #[]] w (Says (xs = ys) w) := by
  have hmax : m ≤ 9223372036854775807 := hA.2.1
  have HM := Aside0.mk hm
  have HN := Aside0.mk hn
  have HA : Aside0 (k41.C w A xs.length xs) := ⟨by rw [← hm]; exact hA⟩
  have HB : Aside0 (k41.C w B ys.length ys) := ⟨by rw [← hn]; exact hB⟩
  clear hm hn hA hB
  by_cases hmn : m = n
  · have e1 : ((m : Int) != (n : Int)) = false := by simp [hmn]
    have HMN := Aside0.mk hmn
    clear hmn
    go_enter Try.func37, Try.ntmps37
    go_wp2_with fail
    go_loopw [7, 8, 9, 17] (fun _ _ _ v w' => ∃ k : Nat, v = .int .i64 k ∧ Aside0 (k ≤ m) ∧ Aside0 (xs.take k = ys.take k) ∧ Aside0 (Below w.heap.size w w')) (fun _ _ _ v _ => m - (intOf v).toNat)
    case atStart => exact ⟨0, rfl, ⟨Nat.zero_le _⟩, ⟨by simp⟩, ⟨Below.refl _ _⟩⟩
    case round =>
      obtain ⟨k, rfl, HK, HE, HC⟩ := hrel
      by_cases hlt : k < m
      · have hlx : k < xs.length := by have := HM.out; omega
        have hly : k < ys.length := by have := HN.out; have := HMN.out; omega
        have hly2 : k < n := by have := HMN.out; omega
        obtain ⟨ad, A2, c2, rfl, h0, h1, h2, hl2, hC2⟩ := at41 (Kd.C_below HA.out HC.out) k hlx
        obtain ⟨bd, B2, d2, rfl, k0, k1, k2, kl2, kC2⟩ := at41 (Kd.C_below HB.out HC.out) k hly
        obtain ⟨x, hx⟩ : ∃ x, x = xs[k] := ⟨_, rfl⟩
        obtain ⟨y, hy⟩ : ∃ y, y = ys[k] := ⟨_, rfl⟩
        rw [← hx] at h0 h1 h2 hl2 hC2
        rw [← hy] at k0 k1 k2 kl2 kC2
        have HX := Aside0.mk hx
        have HY := Aside0.mk hy
        have HC2 := Aside0.mk hC2
        have KC2 := Aside0.mk kC2
        have HL2 := Aside0.mk hl2
        have KL2 := Aside0.mk kl2
        clear hx hy hC2 kC2 hl2 kl2
        obtain ⟨m2, hm2⟩ : ∃ m2, m2 = x.f2.length := ⟨_, rfl⟩
        obtain ⟨n2, hn2⟩ : ∃ n2, n2 = y.f2.length := ⟨_, rfl⟩
        rw [← hm2] at h2 HL2 HC2
        rw [← hn2] at k2 KL2 KC2
        have HM2 := Aside0.mk hm2
        have HN2 := Aside0.mk hn2
        clear hm2 hn2
        have k0a := fun o => cell_later ((Below.refl wr.heap.size wr).alloc (Nat.le_refl _) o) k0
        have k1a := fun o => cell_later ((Below.refl wr.heap.size wr).alloc (Nat.le_refl _) o) k1
        have k2a := fun o => cell_later ((Below.refl wr.heap.size wr).alloc (Nat.le_refl _) o) k2
        have KK : Aside0 (∀ w2, Below wr.heap.size wr w2 → Calls Try.prog 38 #[.agg #[.int .i64 x.f0, .int .i64 x.f1, .slice A2 m2 c2], .agg #[.int .i64 y.f0, .int .i64 y.f1, .slice B2 n2 d2]] w2 (Says (x = y) w2)) := ⟨fun w2 hb => stripe_any x y A2 B2 m2 c2 n2 d2 w2 HM2.out HL2.out (Kd.C_below HC2.out hb) HN2.out KL2.out (Kd.C_below KC2.out hb)⟩
        have hbb : Aside0 (Below wr.heap.size wr ((wr.alloc (.cells #[.int .i64 x.f0, .int .i64 x.f1, .slice A2 m2 c2] 41)).alloc (.cells #[.int .i64 y.f0, .int .i64 y.f1, .slice B2 n2 d2] 41))) := ⟨((Below.refl _ _).alloc (Nat.le_refl _) _).alloc (by simp) _⟩
        by_cases hxy : x = y
        · have HXY := Aside0.mk hxy
          clear hxy
          go_wp2_with (go_at_call 38; go_must (refine (KK.out _ hbb.out).mono ?_; rintro e w3 ⟨b, rfl, hb, hb3⟩; obtain rfl : b = true := hb.out.2 HXY.out))
          go_roundw
          case rel => exact ⟨k + 1, by go_num, ⟨hlt⟩, ⟨by rw [List.take_succ_eq_append_getElem hlx, List.take_succ_eq_append_getElem hly, HE.out, ← HX.out, ← HY.out, HXY.out]⟩, ⟨HC.out.trans ((hbb.out.trans (hb3.out.mono hbb.out.size)).mono HC.out.size)⟩⟩
          case measure => simp [intOf]; omega
        · have HXY := Aside0.mk hxy
          clear hxy
          go_wp2_with (go_at_call 38; go_must (refine (KK.out _ hbb.out).mono ?_; rintro e w3 ⟨b, rfl, hb, hb3⟩; obtain rfl : b = false := (by cases b; rfl; exact absurd (hb.out.1 rfl) HXY.out)))
          go_ret
          refine ⟨false, rfl, ⟨?_⟩, ⟨HC.out.trans ((hbb.out.trans (hb3.out.mono hbb.out.size)).mono HC.out.size)⟩⟩
          constructor
          · intro h; cases h
          · intro h
            exact absurd (by rw [HX.out, HY.out]; subst h; rfl) HXY.out
      · have hk : k = m := by have := HK.out; omega
        have HKN := Aside0.mk hk
        clear hk
        go_wp2_with fail
        go_ret
        refine ⟨true, rfl, ⟨?_⟩, HC⟩
        have h1 := HE.out
        rw [List.take_of_length_le (by have := HM.out; have := HKN.out; omega), List.take_of_length_le (by have := HN.out; have := HMN.out; have := HKN.out; omega)] at h1
        simp [h1]
  · have e1 : ((m : Int) != (n : Int)) = true := by simp; omega
    have HMN := Aside0.mk hmn
    clear hmn
    go_enter Try.func37, Try.ntmps37
    go_wp2_with fail
    go_ret
    refine ⟨false, rfl, ⟨?_⟩, ⟨Below.refl _ _⟩⟩
    constructor
    · intro h; cases h
    · intro h
      exact absurd (by rw [HM.out, HN.out, h]) HMN.out
set_option maxHeartbeats 4000000 in
theorem object_any (x y : S44) (A B : Option Addr) (m c n d : Nat) (w : World) (hm : m = x.f3.length) (hmc : m ≤ c) (hA : k41.C w A m x.f3) (hn : n = y.f3.length) (hnd : n ≤ d) (hB : k41.C w B n y.f3) :
    Calls Try.prog 40 #[.agg #[.string x.f0, .int .i64 x.f1, .int .i64 x.f2, .slice A m c], .agg #[.string y.f0, .int .i64 y.f1, .int .i64 y.f2, .slice B n d]] w (Says (x = y) w) := by
  have hbb : Aside0 (Below w.heap.size w ((w.alloc (.cells #[.string x.f0, .int .i64 x.f1, .int .i64 x.f2, .slice A m c] 44)).alloc (.cells #[.string y.f0, .int .i64 y.f1, .int .i64 y.f2, .slice B n d] 44))) := ⟨((Below.refl _ _).alloc (Nat.le_refl _) _).alloc (by simp) _⟩
  have KK : Aside0 (∀ w2, Below w.heap.size w w2 → Calls Try.prog 37 #[.slice A m c, .slice B n d, .func (.func 38) #[] #[]] w2 (Says (x.f3 = y.f3) w2)) := ⟨fun w2 hb => equalT_calls A B m n c d x.f3 y.f3 w2 hm hn (Kd.C_below hA hb) (Kd.C_below hB hb)⟩
  clear hm hmc hA hn hnd hB
  have no : ¬ x = y → ∀ w', Below w.heap.size w w' → Says (x = y) w (.returned (.bool false)) w' := fun h w' hb => ⟨false, rfl, ⟨⟨(fun e => by cases e), fun e => absurd e h⟩⟩, ⟨hb⟩⟩
  have NO := Aside0.mk no
  clear no
  by_cases h0 : x.f0.toList = y.f0.toList
  · have g0 : (x.f0.toList == y.f0.toList) = true := by simpa using h0
    have H0 := Aside0.mk ((str_eq _ _).1 h0)
    clear h0
    by_cases h1 : x.f1 = y.f1
    · have g1 : (x.f1 == y.f1) = true := by simpa using h1
      have H1 := Aside0.mk h1
      clear h1
      by_cases h2 : x.f2 = y.f2
      · have g2 : (x.f2 == y.f2) = true := by simpa using h2
        have H2 := Aside0.mk h2
        clear h2
        go_enter Try.func40, Try.ntmps40
        go_wp2_with (go_at_call 37; go_must (refine (KK.out _ hbb.out).mono ?_; rintro e w3 ⟨b, rfl, hb, hb3⟩))
        go_ret
        refine ⟨b, rfl, ⟨?_⟩, ⟨hbb.out.trans (hb3.out.mono hbb.out.size)⟩⟩
        rw [hb.out, s44_eq]
        simp [H0.out, H1.out, H2.out]
      · have g2 : (x.f2 == y.f2) = false := by simpa using h2
        have H2 := Aside0.mk h2
        clear h2
        go_enter Try.func40, Try.ntmps40
        go_wp2_with fail
        go_ret
        exact NO.out (fun e => H2.out (by rw [e])) _ hbb.out
    · have g1 : (x.f1 == y.f1) = false := by simpa using h1
      have H1 := Aside0.mk h1
      clear h1
      go_enter Try.func40, Try.ntmps40
      go_wp2_with fail
      go_ret
      exact NO.out (fun e => H1.out (by rw [e])) _ hbb.out
  · have g0 : (x.f0.toList == y.f0.toList) = false := by simpa using h0
    have H0 := Aside0.mk h0
    clear h0
    go_enter Try.func40, Try.ntmps40
    go_wp2_with fail
    go_ret
    exact NO.out (fun e => H0.out (by rw [e])) _ hbb.out
set_option maxHeartbeats 4000000 in
theorem equalU_calls (A B : Option Addr) (m n c d : Nat) (xs ys : List S44) (w : World) (hm : m = xs.length) (hn : n = ys.length) (hA : k44.C w A m xs) (hB : k44.C w B n ys) :
    Calls Try.prog 39 #[.slice A m c, .slice B n d, .func (.func 40) #[] #[]] w (Says (xs = ys) w) := by
  have hmax : m ≤ 9223372036854775807 := hA.2.1
  have HM := Aside0.mk hm
  have HN := Aside0.mk hn
  have HA : Aside0 (k44.C w A xs.length xs) := ⟨by rw [← hm]; exact hA⟩
  have HB : Aside0 (k44.C w B ys.length ys) := ⟨by rw [← hn]; exact hB⟩
  clear hm hn hA hB
  by_cases hmn : m = n
  · have e1 : ((m : Int) != (n : Int)) = false := by simp [hmn]
    have HMN := Aside0.mk hmn
    clear hmn
    go_enter Try.func39, Try.ntmps39
    go_wp2_with fail
    go_loopw [7, 8, 9, 17] (fun _ _ _ v w' => ∃ k : Nat, v = .int .i64 k ∧ Aside0 (k ≤ m) ∧ Aside0 (xs.take k = ys.take k) ∧ Aside0 (Below w.heap.size w w')) (fun _ _ _ v _ => m - (intOf v).toNat)
    case atStart => exact ⟨0, rfl, ⟨Nat.zero_le _⟩, ⟨by simp⟩, ⟨Below.refl _ _⟩⟩
    case round =>
      obtain ⟨k, rfl, HK, HE, HC⟩ := hrel
      by_cases hlt : k < m
      · have hlx : k < xs.length := by have := HM.out; omega
        have hly : k < ys.length := by have := HN.out; have := HMN.out; omega
        have hly2 : k < n := by have := HMN.out; omega
        obtain ⟨ad, A2, c2, rfl, h0, h1, h2, h3, hl2, hC2⟩ := at44 (Kd.C_below HA.out HC.out) k hlx
        obtain ⟨bd, B2, d2, rfl, k0, k1, k2, k3, kl2, kC2⟩ := at44 (Kd.C_below HB.out HC.out) k hly
        obtain ⟨x, hx⟩ : ∃ x, x = xs[k] := ⟨_, rfl⟩
        obtain ⟨y, hy⟩ : ∃ y, y = ys[k] := ⟨_, rfl⟩
        rw [← hx] at h0 h1 h2 h3 hl2 hC2
        rw [← hy] at k0 k1 k2 k3 kl2 kC2
        have HX := Aside0.mk hx
        have HY := Aside0.mk hy
        have HC2 := Aside0.mk hC2
        have KC2 := Aside0.mk kC2
        have HL2 := Aside0.mk hl2
        have KL2 := Aside0.mk kl2
        clear hx hy hC2 kC2 hl2 kl2
        obtain ⟨m2, hm2⟩ : ∃ m2, m2 = x.f3.length := ⟨_, rfl⟩
        obtain ⟨n2, hn2⟩ : ∃ n2, n2 = y.f3.length := ⟨_, rfl⟩
        rw [← hm2] at h3 HL2 HC2
        rw [← hn2] at k3 KL2 KC2
        have HM2 := Aside0.mk hm2
        have HN2 := Aside0.mk hn2
        clear hm2 hn2
        have k0a := fun o => cell_later ((Below.refl wr.heap.size wr).alloc (Nat.le_refl _) o) k0
        have k1a := fun o => cell_later ((Below.refl wr.heap.size wr).alloc (Nat.le_refl _) o) k1
        have k2a := fun o => cell_later ((Below.refl wr.heap.size wr).alloc (Nat.le_refl _) o) k2
        have k3a := fun o => cell_later ((Below.refl wr.heap.size wr).alloc (Nat.le_refl _) o) k3
        have KK : Aside0 (∀ w2, Below wr.heap.size wr w2 → Calls Try.prog 40 #[.agg #[.string x.f0, .int .i64 x.f1, .int .i64 x.f2, .slice A2 m2 c2], .agg #[.string y.f0, .int .i64 y.f1, .int .i64 y.f2, .slice B2 n2 d2]] w2 (Says (x = y) w2)) := ⟨fun w2 hb => object_any x y A2 B2 m2 c2 n2 d2 w2 HM2.out HL2.out (Kd.C_below HC2.out hb) HN2.out KL2.out (Kd.C_below KC2.out hb)⟩
        have hbb : Aside0 (Below wr.heap.size wr ((wr.alloc (.cells #[.string x.f0, .int .i64 x.f1, .int .i64 x.f2, .slice A2 m2 c2] 44)).alloc (.cells #[.string y.f0, .int .i64 y.f1, .int .i64 y.f2, .slice B2 n2 d2] 44))) := ⟨((Below.refl _ _).alloc (Nat.le_refl _) _).alloc (by simp) _⟩
        by_cases hxy : x = y
        · have HXY := Aside0.mk hxy
          clear hxy
          go_wp2_with (go_at_call 40; go_must (refine (KK.out _ hbb.out).mono ?_; rintro e w3 ⟨b, rfl, hb, hb3⟩; obtain rfl : b = true := hb.out.2 HXY.out))
          go_roundw
          case rel => exact ⟨k + 1, by go_num, ⟨hlt⟩, ⟨by rw [List.take_succ_eq_append_getElem hlx, List.take_succ_eq_append_getElem hly, HE.out, ← HX.out, ← HY.out, HXY.out]⟩, ⟨HC.out.trans ((hbb.out.trans (hb3.out.mono hbb.out.size)).mono HC.out.size)⟩⟩
          case measure => simp [intOf]; omega
        · have HXY := Aside0.mk hxy
          clear hxy
          go_wp2_with (go_at_call 40; go_must (refine (KK.out _ hbb.out).mono ?_; rintro e w3 ⟨b, rfl, hb, hb3⟩; obtain rfl : b = false := (by cases b; rfl; exact absurd (hb.out.1 rfl) HXY.out)))
          go_ret
          refine ⟨false, rfl, ⟨?_⟩, ⟨HC.out.trans ((hbb.out.trans (hb3.out.mono hbb.out.size)).mono HC.out.size)⟩⟩
          constructor
          · intro h; cases h
          · intro h
            exact absurd (by rw [HX.out, HY.out]; subst h; rfl) HXY.out
      · have hk : k = m := by have := HK.out; omega
        have HKN := Aside0.mk hk
        clear hk
        go_wp2_with fail
        go_ret
        refine ⟨true, rfl, ⟨?_⟩, HC⟩
        have h1 := HE.out
        rw [List.take_of_length_le (by have := HM.out; have := HKN.out; omega), List.take_of_length_le (by have := HN.out; have := HMN.out; have := HKN.out; omega)] at h1
        simp [h1]
  · have e1 : ((m : Int) != (n : Int)) = true := by simp; omega
    have HMN := Aside0.mk hmn
    clear hmn
    go_enter Try.func39, Try.ntmps39
    go_wp2_with fail
    go_ret
    refine ⟨false, rfl, ⟨?_⟩, ⟨Below.refl _ _⟩⟩
    constructor
    · intro h; cases h
    · intro h
      exact absurd (by rw [HM.out, HN.out, h]) HMN.out
set_option maxHeartbeats 8000000 in
set_option maxRecDepth 100000 in
theorem psame_at (x y : Rc) (v4 v5 v6 u4 u5 u6 : Sl) (w : World) (h : RecAt w x v4 v5 v6) (h' : RecAt w y u4 u5 u6) :
    Calls Try.prog 15 #[.agg #[.int .i64 x.kind, .int .i64 x.id, .int .i64 x.size, .string x.key, .slice v4.A v4.n v4.c, .slice v5.A v5.n v5.c, .slice v6.A v6.n v6.c], .agg #[.int .i64 y.kind, .int .i64 y.id, .int .i64 y.size, .string y.key, .slice u4.A u4.n u4.c, .slice u5.A u5.n u5.c, .slice u6.A u6.n u6.c]] w (Says (x = y) w) := by
  have hbb : Aside0 (Below w.heap.size w ((w.alloc (.cells #[.int .i64 x.kind, .int .i64 x.id, .int .i64 x.size, .string x.key, .slice v4.A v4.n v4.c, .slice v5.A v5.n v5.c, .slice v6.A v6.n v6.c] 26)).alloc (.cells #[.int .i64 y.kind, .int .i64 y.id, .int .i64 y.size, .string y.key, .slice u4.A u4.n u4.c, .slice u5.A u5.n u5.c, .slice u6.A u6.n u6.c] 26))) := ⟨((Below.refl _ _).alloc (Nat.le_refl _) _).alloc (by simp) _⟩
  have X0 : Aside0 (((w.alloc (.cells #[.int .i64 x.kind, .int .i64 x.id, .int .i64 x.size, .string x.key, .slice v4.A v4.n v4.c, .slice v5.A v5.n v5.c, .slice v6.A v6.n v6.c] 26)).alloc (.cells #[.int .i64 y.kind, .int .i64 y.id, .int .i64 y.size, .string y.key, .slice u4.A u4.n u4.c, .slice u5.A u5.n u5.c, .slice u6.A u6.n u6.c] 26)).heap[w.heap.size]? = some (.cells #[.int .i64 x.kind, .int .i64 x.id, .int .i64 x.size, .string x.key, .slice v4.A v4.n v4.c, .slice v5.A v5.n v5.c, .slice v6.A v6.n v6.c] 26 (0, 0))) := ⟨by rw [Below.heap_alloc _ _ _ (by simp)]; exact blk_new _ _⟩
  have Y0 : Aside0 (((w.alloc (.cells #[.int .i64 x.kind, .int .i64 x.id, .int .i64 x.size, .string x.key, .slice v4.A v4.n v4.c, .slice v5.A v5.n v5.c, .slice v6.A v6.n v6.c] 26)).alloc (.cells #[.int .i64 y.kind, .int .i64 y.id, .int .i64 y.size, .string y.key, .slice u4.A u4.n u4.c, .slice u5.A u5.n u5.c, .slice u6.A u6.n u6.c] 26)).heap[w.heap.size + 1]? = some (.cells #[.int .i64 y.kind, .int .i64 y.id, .int .i64 y.size, .string y.key, .slice u4.A u4.n u4.c, .slice u5.A u5.n u5.c, .slice u6.A u6.n u6.c] 26 (0, 0))) := ⟨by have := blk_new (w.alloc (.cells #[.int .i64 x.kind, .int .i64 x.id, .int .i64 x.size, .string x.key, .slice v4.A v4.n v4.c, .slice v5.A v5.n v5.c, .slice v6.A v6.n v6.c] 26)) (.cells #[.int .i64 y.kind, .int .i64 y.id, .int .i64 y.size, .string y.key, .slice u4.A u4.n u4.c, .slice u5.A u5.n u5.c, .slice u6.A u6.n u6.c] 26); simpa using this⟩
  have K4 : Aside0 (∀ w2, Below w.heap.size w w2 → Calls Try.prog 37 #[.slice v4.A v4.n v4.c, .slice u4.A u4.n u4.c, .func (.func 38) #[] #[]] w2 (Says (x.stripes = y.stripes) w2)) := ⟨fun w2 hb => equalT_calls _ _ _ _ _ _ _ _ w2 h.n4 h'.n4 (Kd.C_below h.c4 hb) (Kd.C_below h'.c4 hb)⟩
  have K5 : Aside0 (∀ w2, Below w.heap.size w w2 → Calls Try.prog 39 #[.slice v5.A v5.n v5.c, .slice u5.A u5.n u5.c, .func (.func 40) #[] #[]] w2 (Says (x.objects = y.objects) w2)) := ⟨fun w2 hb => equalU_calls _ _ _ _ _ _ _ _ w2 h.n5 h'.n5 (Kd.C_below h.c5 hb) (Kd.C_below h'.c5 hb)⟩
  have K6 : Aside0 (∀ w2, Below w.heap.size w w2 → Calls Try.prog 41 #[.slice v6.A v6.n v6.c, .slice u6.A u6.n u6.c] w2 (Says (x.drives = y.drives) w2)) := ⟨fun w2 hb => equalI_any _ _ _ _ _ _ _ _ w2 h.n6 h'.n6 h.l6 h'.l6 (Kd.C_below h.c6 hb) (Kd.C_below h'.c6 hb)⟩
  clear h h'
  have no : ¬ x = y → ∀ w', Below w.heap.size w w' → Says (x = y) w (.returned (.bool false)) w' := fun h w' hb => ⟨false, rfl, ⟨⟨(fun e => by cases e), fun e => absurd e h⟩⟩, ⟨hb⟩⟩
  have NO := Aside0.mk no
  clear no
  by_cases h0 : x.kind = y.kind
  · have g0 : (x.kind == y.kind) = true := by simpa using h0
    have H0 := Aside0.mk h0
    clear h0
    by_cases h1 : x.id = y.id
    · have g1 : (x.id == y.id) = true := by simpa using h1
      have H1 := Aside0.mk h1
      clear h1
      by_cases h2 : x.size = y.size
      · have g2 : (x.size == y.size) = true := by simpa using h2
        have H2 := Aside0.mk h2
        clear h2
        by_cases h3 : x.key.toList = y.key.toList
        · have g3 : (x.key.toList == y.key.toList) = true := by simpa using h3
          have H3 := Aside0.mk h3
          clear h3
          by_cases h4 : x.stripes = y.stripes
          · have H4 := Aside0.mk h4
            clear h4
            by_cases h5 : x.objects = y.objects
            · have H5 := Aside0.mk h5
              clear h5
              go_enter Try.func15, Try.ntmps15
              go_wp2_with (first | (go_at_call 37; go_must (refine (K4.out _ hbb.out).mono ?_; rintro e w3 ⟨b, rfl, hb, hb3⟩; obtain rfl : b = true := hb.out.2 H4.out; replace X0 := Aside0.mk ((hb3.out.block _ (blk_lt X0.out)).trans X0.out); replace Y0 := Aside0.mk ((hb3.out.block _ (blk_lt Y0.out)).trans Y0.out); replace hbb := Aside0.mk (hbb.out.trans (hb3.out.mono hbb.out.size)); have x4 := blk_cell X0.out 4; have x5 := blk_cell X0.out 5; have x6 := blk_cell X0.out 6; have y4 := blk_cell Y0.out 4; have y5 := blk_cell Y0.out 5; have y6 := blk_cell Y0.out 6; clear hb3)) | (go_at_call 39; go_must (refine (K5.out _ hbb.out).mono ?_; rintro e w3 ⟨b, rfl, hb, hb3⟩; obtain rfl : b = true := hb.out.2 H5.out; replace X0 := Aside0.mk ((hb3.out.block _ (blk_lt X0.out)).trans X0.out); replace Y0 := Aside0.mk ((hb3.out.block _ (blk_lt Y0.out)).trans Y0.out); replace hbb := Aside0.mk (hbb.out.trans (hb3.out.mono hbb.out.size)); have x4 := blk_cell X0.out 4; have x5 := blk_cell X0.out 5; have x6 := blk_cell X0.out 6; have y4 := blk_cell Y0.out 4; have y5 := blk_cell Y0.out 5; have y6 := blk_cell Y0.out 6; clear hb3)) | (go_at_call 41; go_must (refine (K6.out _ hbb.out).mono ?_; rintro e w3 ⟨b, rfl, hb, hb3⟩; have HB9 := hb; replace X0 := Aside0.mk ((hb3.out.block _ (blk_lt X0.out)).trans X0.out); replace Y0 := Aside0.mk ((hb3.out.block _ (blk_lt Y0.out)).trans Y0.out); replace hbb := Aside0.mk (hbb.out.trans (hb3.out.mono hbb.out.size)); have x4 := blk_cell X0.out 4; have x5 := blk_cell X0.out 5; have x6 := blk_cell X0.out 6; have y4 := blk_cell Y0.out 4; have y5 := blk_cell Y0.out 5; have y6 := blk_cell Y0.out 6; clear hb3)))
              go_ret
              refine ⟨b, rfl, ⟨?_⟩, hbb⟩
              rw [HB9.out, rc_eq]
              simp [H0.out, H1.out, H2.out, (str_eq _ _).1 H3.out, H4.out, H5.out]
            · have H5 := Aside0.mk h5
              clear h5
              go_enter Try.func15, Try.ntmps15
              go_wp2_with (first | (go_at_call 37; go_must (refine (K4.out _ hbb.out).mono ?_; rintro e w3 ⟨b, rfl, hb, hb3⟩; obtain rfl : b = true := hb.out.2 H4.out; replace X0 := Aside0.mk ((hb3.out.block _ (blk_lt X0.out)).trans X0.out); replace Y0 := Aside0.mk ((hb3.out.block _ (blk_lt Y0.out)).trans Y0.out); replace hbb := Aside0.mk (hbb.out.trans (hb3.out.mono hbb.out.size)); have x4 := blk_cell X0.out 4; have x5 := blk_cell X0.out 5; have x6 := blk_cell X0.out 6; have y4 := blk_cell Y0.out 4; have y5 := blk_cell Y0.out 5; have y6 := blk_cell Y0.out 6; clear hb3)) | (go_at_call 39; go_must (refine (K5.out _ hbb.out).mono ?_; rintro e w3 ⟨b, rfl, hb, hb3⟩; obtain rfl : b = false := (by cases b; rfl; exact absurd (hb.out.1 rfl) H5.out); replace X0 := Aside0.mk ((hb3.out.block _ (blk_lt X0.out)).trans X0.out); replace Y0 := Aside0.mk ((hb3.out.block _ (blk_lt Y0.out)).trans Y0.out); replace hbb := Aside0.mk (hbb.out.trans (hb3.out.mono hbb.out.size)); have x4 := blk_cell X0.out 4; have x5 := blk_cell X0.out 5; have x6 := blk_cell X0.out 6; have y4 := blk_cell Y0.out 4; have y5 := blk_cell Y0.out 5; have y6 := blk_cell Y0.out 6; clear hb3)))
              go_ret
              exact NO.out (fun e => H5.out (by rw [e])) _ hbb.out
          · have H4 := Aside0.mk h4
            clear h4
            go_enter Try.func15, Try.ntmps15
            go_wp2_with (first | (go_at_call 37; go_must (refine (K4.out _ hbb.out).mono ?_; rintro e w3 ⟨b, rfl, hb, hb3⟩; obtain rfl : b = false := (by cases b; rfl; exact absurd (hb.out.1 rfl) H4.out); replace X0 := Aside0.mk ((hb3.out.block _ (blk_lt X0.out)).trans X0.out); replace Y0 := Aside0.mk ((hb3.out.block _ (blk_lt Y0.out)).trans Y0.out); replace hbb := Aside0.mk (hbb.out.trans (hb3.out.mono hbb.out.size)); have x4 := blk_cell X0.out 4; have x5 := blk_cell X0.out 5; have x6 := blk_cell X0.out 6; have y4 := blk_cell Y0.out 4; have y5 := blk_cell Y0.out 5; have y6 := blk_cell Y0.out 6; clear hb3)))
            go_ret
            exact NO.out (fun e => H4.out (by rw [e])) _ hbb.out
        · have g3 : (x.key.toList == y.key.toList) = false := by simpa using h3
          have H3 := Aside0.mk h3
          clear h3
          go_enter Try.func15, Try.ntmps15
          go_wp2_with fail
          go_ret
          exact NO.out (fun e => H3.out (by rw [e])) _ hbb.out
      · have g2 : (x.size == y.size) = false := by simpa using h2
        have H2 := Aside0.mk h2
        clear h2
        go_enter Try.func15, Try.ntmps15
        go_wp2_with fail
        go_ret
        exact NO.out (fun e => H2.out (by rw [e])) _ hbb.out
    · have g1 : (x.id == y.id) = false := by simpa using h1
      have H1 := Aside0.mk h1
      clear h1
      go_enter Try.func15, Try.ntmps15
      go_wp2_with fail
      go_ret
      exact NO.out (fun e => H1.out (by rw [e])) _ hbb.out
  · have g0 : (x.kind == y.kind) = false := by simpa using h0
    have H0 := Aside0.mk h0
    clear h0
    go_enter Try.func15, Try.ntmps15
    go_wp2_with fail
    go_ret
    exact NO.out (fun e => H0.out (by rw [e])) _ hbb.out
end Go.Proofs.Ytcpekifbbjnjmaa
