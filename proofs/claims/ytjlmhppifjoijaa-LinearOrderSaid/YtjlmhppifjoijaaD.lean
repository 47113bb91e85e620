/- insertionSortCmpFunc over a row of calls. -/
import Derived.Test.YtjlmhppifjoijaaC
import Derived.Test.YtjlmhppifjoijaaE
import Derived.StillTailTactics
set_option linter.unusedVariables false
set_option linter.unusedSimpArgs false
namespace Go.Proofs.Ytjlmhppifjoijaa
open Go.RowKit Go.Proofs.YtjlmhppifjoijaaW.PrintWords Go.Proofs.YtjlmhppifjoijaaW.PrintLast Go.Proofs.YtjlmhppifjoijaaW.PrintMore
/-- The cells of the call at j of a row of the call's own. -/
theorem cl_at {w : World} {base g n c : Nat} {ok : Nat → Prop} {xs : List Cl} (h : kCl.R 29 w base ok (.slice (some ⟨g, 0, none⟩) n c) xs) (j : Nat) (x : Cl) (hx : xs[j]? = some x) :
    ∀ k u, x.cells[k]? = some u → w.cell? ⟨g, j * 10 + k, none⟩ = some u := by
  have hr := Kd.R_reads' h
  have hj : j < xs.length := (List.getElem?_eq_some_iff.1 hx).1
  obtain ⟨ad, e, hall⟩ := hr.2.2.2.2 (by omega)
  injection e with e
  subst e
  obtain ⟨cs, hl, hK, hc⟩ := hall j x hx
  have hK' : cs = x.cells := hK
  subst hK'
  intro k u hu
  have := hc k u hu
  rwa [add_plain] at this
def insT6 : Bool × List (List Nat × List Nat) := (true, [([], []), ([], []), ([], []), ([], []), ([3], [3]), ([], []), ([], []), ([6], [6]), ([5, 7], [5, 7]), ([8], [8]), ([], []), ([], []), ([10, 11], [10, 11]), ([12], [12]), ([0, 1, 0, 1, 5, 6, 7, 8, 9, 13], [0, 1]), ([14, 9, 0, 1, 5, 6, 7, 8, 9, 13], [9, 14]), ([2, 4, 0, 1, 2, 3, 4, 5, 6, 7, 8, 9, 10, 11, 12, 13, 14, 15], [2, 4]), ([16, 13, 15, 0, 1, 2, 3, 4, 5, 6, 7, 8, 9, 10, 11, 12, 13, 14, 15], [13, 16])])
def insB6 : List Nat := [0, 0, 0, 0, 8, 0, 0, 64, 224, 480, 0, 0, 3072, 7168, 16355, 32739, 65535, 131071]
theorem insTab6 : rtab .any (opsOf Try.f20 6) = insT6 := by kernel_rfl
theorem insBits6 : waitsOk insT6.2 insB6 = true := by kernel_rfl
set_option maxHeartbeats 2000000 in
theorem ins_calls (g n c : Nat) (xs : List Cl) (w : World) (base : Nat) (ok : Nat → Prop) (hR : kCl.R 29 w base ok (.slice (some ⟨g, 0, none⟩) n c) xs) (hn : n ≤ 1000000) :
    Calls Try.prog 20 #[.slice (some ⟨g, 0, none⟩) n c, .int .i64 0, .int .i64 n, .func (.func 10) #[] #[]] w fun e w' => e = .returned (.tuple #[]) ∧ kCl.R 29 w' base ok (.slice (some ⟨g, 0, none⟩) n c) (insF xs n) ∧ Ch w w' (fun k => k = g) := by
  have hl : n = xs.length := (Kd.R_reads' hR).1
  have HR0 := Aside0.mk hR
  have HL := Aside0.mk hl
  clear hR hl
  go_enter Try.func20, Try.ntmps20
  go_wp2_with fail
  go_loopw [8] (fun v w' => ∃ (i : Nat), v = .int .i64 (i + 1 : Nat) ∧ Aside0 (i ≤ n) ∧ Aside0 (i = 0 ∨ i + 1 ≤ n) ∧ Aside0 (kCl.R 29 w' base ok (.slice (some ⟨g, 0, none⟩) n c) (insF xs (i + 1))) ∧ Aside0 (Ch w w' (fun k => k = g))) (fun v _ => n + 1 - (intOf v).toNat)
  case atStart => exact ⟨0, by go_num, ⟨Nat.zero_le _⟩, ⟨Or.inl rfl⟩, HR0, ⟨Ch.refl _ _⟩⟩
  case round =>
    obtain ⟨i, rfl, HI, HI2, HR, HC⟩ := hrel
    obtain ⟨wo, rfl⟩ : ∃ wo : World, wo = wr := ⟨_, rfl⟩
    by_cases hlt : i + 1 < n
    · have hd : decide ((i : Int) + 1 < (n : Int)) = true := decide_eq_true (by omega)
      go_wp2_with fail
      go_loopw [9] (fun v w' => ∃ (j : Nat) (zs : List Cl), v = .int .i64 j ∧ Aside0 (j ≤ i + 1) ∧ Aside0 (sink zs j = insF xs (i + 2)) ∧ Aside0 (kCl.R 29 w' base ok (.slice (some ⟨g, 0, none⟩) n c) zs) ∧ Aside0 (Ch w w' (fun k => k = g))) (fun v _ => (intOf v).toNat)
      case atStart => exact ⟨i + 1, _, by go_num, ⟨Nat.le_refl _⟩, ⟨rfl⟩, HR, HC⟩
      case round =>
        clear HR HC
        obtain ⟨j, zs, rfl, HJ, HS, HR, HC⟩ := hrel
        rcases j with _ | j
        · go_wp2_with fail
          go_quiet (fail)
          go_wp2_with fail
          go_roundw
          case rel => exact ⟨i + 1, by go_num, ⟨by omega⟩, ⟨Or.inr (by omega)⟩, ⟨HS.out ▸ ((Ch.refl wr (fun _ => False)).drewN _).R HR.out (fun _ _ h => h)⟩, ⟨HC.out.drewN _⟩⟩
          case measure => simp [intOf]; omega
        · have hzl : n = zs.length := (Kd.R_reads' HR.out).1
          have HZL := Aside0.mk hzl
          clear hzl
          obtain ⟨a, ha⟩ : ∃ a, zs[j + 1]? = some a := ⟨_, List.getElem?_eq_getElem (by have := HJ.out; have := HZL.out; omega)⟩
          obtain ⟨b, hb⟩ : ∃ b, zs[j]? = some b := ⟨_, List.getElem?_eq_getElem (by have := HJ.out; have := HZL.out; omega)⟩
          have hca := cl_at HR.out (j + 1) a ha
          have hcb := cl_at HR.out j b hb
          have ca0 : wr.cell? ⟨g, (j + 1) * 10, none⟩ = _ := hca 0 _ rfl
          have cb0 : wr.cell? ⟨g, j * 10, none⟩ = _ := hcb 0 _ rfl
          have ca1 := hca 1 _ rfl
          have cb1 := hcb 1 _ rfl
          have ca2 := hca 2 _ rfl
          have cb2 := hcb 2 _ rfl
          have ca3 := hca 3 _ rfl
          have cb3 := hcb 3 _ rfl
          have ca4 := hca 4 _ rfl
          have cb4 := hcb 4 _ rfl
          have ca5 := hca 5 _ rfl
          have cb5 := hcb 5 _ rfl
          have ca6 := hca 6 _ rfl
          have cb6 := hcb 6 _ rfl
          have ca7 := hca 7 _ rfl
          have cb7 := hcb 7 _ rfl
          have ca8 := hca 8 _ rfl
          have cb8 := hcb 8 _ rfl
          have ca9 := hca 9 _ rfl
          have cb9 := hcb 9 _ rfl
          have HA := Aside0.mk ha
          have HB := Aside0.mk hb
          clear hca hcb ha hb
          have b1 : (0 : Int) ≤ (j : Int) + 1 := by omega
          have b2 : (j : Int) + 1 < (n : Int) := by have := HJ.out; omega
          have b3 : (j : Int) < (n : Int) := by omega
          have hw : IntKind.i64.wrap (j : Int) = (j : Int) := IntWalk.i64_in _ (by have := HJ.out; omega)
          by_cases hlt2 : a.at_ < b.at_
          · have hcm : cmpI a.at_ b.at_ = -1 := by simp [cmpI, hlt2]
            go_wp2_with fail
            go_still_tail 14, (by kernel_rfl)
            change wpList _ _ _ _ _ wr.drew
            go_wp2_with (go_at_call 10; go_must (refine (before_calls a b wr.drew).mono ?_; rintro e w3 ⟨rfl, hc3⟩; rw [hcm]; have C3 := Aside0.mk ((Ch.refl wr (fun _ => False)).drew.then_ hc3 (fun _ h => h.elim)); clear hc3))
            have R3 := Aside0.mk (C3.out.R HR.out (fun _ _ h => h))
            have hxa := cl_at R3.out (j + 1) a HA.out
            have hxb := cl_at R3.out j b HB.out
            clear ca0 cb0 ca1 cb1 ca2 cb2 ca3 cb3 ca4 cb4 ca5 cb5 ca6 cb6 ca7 cb7 ca8 cb8 ca9 cb9
            have xa0 : w3.drew.cell? ⟨g, (j + 1) * 10, none⟩ = some (.int .i64 a.task) := hxa 0 _ rfl
            have xb0 : w3.drew.cell? ⟨g, j * 10, none⟩ = some (.int .i64 b.task) := hxb 0 _ rfl
            have xa1 : w3.drew.cell? ⟨g, (j + 1) * 10 + 1, none⟩ = some (.int .i64 a.op) := hxa 1 _ rfl
            have xb1 : w3.drew.cell? ⟨g, j * 10 + 1, none⟩ = some (.int .i64 b.op) := hxb 1 _ rfl
            have xa2 : w3.drew.cell? ⟨g, (j + 1) * 10 + 2, none⟩ = some (.string a.key) := hxa 2 _ rfl
            have xb2 : w3.drew.cell? ⟨g, j * 10 + 2, none⟩ = some (.string b.key) := hxb 2 _ rfl
            have xa3 : w3.drew.cell? ⟨g, (j + 1) * 10 + 3, none⟩ = some (.slice a.data.A a.data.n a.data.c) := hxa 3 _ rfl
            have xb3 : w3.drew.cell? ⟨g, j * 10 + 3, none⟩ = some (.slice b.data.A b.data.n b.data.c) := hxb 3 _ rfl
            have xa4 : w3.drew.cell? ⟨g, (j + 1) * 10 + 4, none⟩ = some (.int .i64 a.fr) := hxa 4 _ rfl
            have xb4 : w3.drew.cell? ⟨g, j * 10 + 4, none⟩ = some (.int .i64 b.fr) := hxb 4 _ rfl
            have xa5 : w3.drew.cell? ⟨g, (j + 1) * 10 + 5, none⟩ = some (.int .i64 a.til) := hxa 5 _ rfl
            have xb5 : w3.drew.cell? ⟨g, j * 10 + 5, none⟩ = some (.int .i64 b.til) := hxb 5 _ rfl
            have xa6 : w3.drew.cell? ⟨g, (j + 1) * 10 + 6, none⟩ = some (.int .i64 a.at_) := hxa 6 _ rfl
            have xb6 : w3.drew.cell? ⟨g, j * 10 + 6, none⟩ = some (.int .i64 b.at_) := hxb 6 _ rfl
            have xa7 : w3.drew.cell? ⟨g, (j + 1) * 10 + 7, none⟩ = some (.int .i64 a.e) := hxa 7 _ rfl
            have xb7 : w3.drew.cell? ⟨g, j * 10 + 7, none⟩ = some (.int .i64 b.e) := hxb 7 _ rfl
            have xa8 : w3.drew.cell? ⟨g, (j + 1) * 10 + 8, none⟩ = some (.slice a.out.A a.out.n a.out.c) := hxa 8 _ rfl
            have xb8 : w3.drew.cell? ⟨g, j * 10 + 8, none⟩ = some (.slice b.out.A b.out.n b.out.c) := hxb 8 _ rfl
            have xa9 : w3.drew.cell? ⟨g, (j + 1) * 10 + 9, none⟩ = some (.slice a.keys.A a.keys.n a.keys.c) := hxa 9 _ rfl
            have xb9 : w3.drew.cell? ⟨g, j * 10 + 9, none⟩ = some (.slice b.keys.A b.keys.n b.keys.c) := hxb 9 _ rfl
            have hG := Kd.R_typed R3.out g (by simp [Value.ownBlock])
            have hfz : ∀ i, w3.drew.frozen? ⟨g, i, none⟩ = false := fun i => by
              obtain ⟨cells, hc⟩ := hG
              exact blk_frozen (w := w3.drew) hc i
            clear hxa hxb hG
            refine start_ (n := 18) (S := fun w' => w'.cell? ⟨g, (j + 1) * 10, none⟩ = some (.int .i64 a.task) ∧ w'.cell? ⟨g, (j + 1) * 10 + 1, none⟩ = some (.int .i64 a.op) ∧ w'.cell? ⟨g, (j + 1) * 10 + 2, none⟩ = some (.string a.key) ∧ w'.cell? ⟨g, (j + 1) * 10 + 3, none⟩ = some (.slice a.data.A a.data.n a.data.c) ∧ w'.cell? ⟨g, (j + 1) * 10 + 4, none⟩ = some (.int .i64 a.fr) ∧ w'.cell? ⟨g, (j + 1) * 10 + 5, none⟩ = some (.int .i64 a.til) ∧ w'.cell? ⟨g, (j + 1) * 10 + 6, none⟩ = some (.int .i64 a.at_) ∧ w'.cell? ⟨g, (j + 1) * 10 + 7, none⟩ = some (.int .i64 a.e) ∧ w'.cell? ⟨g, (j + 1) * 10 + 8, none⟩ = some (.slice a.out.A a.out.n a.out.c) ∧ w'.cell? ⟨g, (j + 1) * 10 + 9, none⟩ = some (.slice a.keys.A a.keys.n a.keys.c) ∧ w'.cell? ⟨g, j * 10, none⟩ = some (.int .i64 b.task) ∧ w'.cell? ⟨g, j * 10 + 1, none⟩ = some (.int .i64 b.op) ∧ w'.cell? ⟨g, j * 10 + 2, none⟩ = some (.string b.key) ∧ w'.cell? ⟨g, j * 10 + 3, none⟩ = some (.slice b.data.A b.data.n b.data.c) ∧ w'.cell? ⟨g, j * 10 + 4, none⟩ = some (.int .i64 b.fr) ∧ w'.cell? ⟨g, j * 10 + 5, none⟩ = some (.int .i64 b.til) ∧ w'.cell? ⟨g, j * 10 + 6, none⟩ = some (.int .i64 b.at_) ∧ w'.cell? ⟨g, j * 10 + 7, none⟩ = some (.int .i64 b.e) ∧ w'.cell? ⟨g, j * 10 + 8, none⟩ = some (.slice b.out.A b.out.n b.out.c) ∧ w'.cell? ⟨g, j * 10 + 9, none⟩ = some (.slice b.keys.A b.keys.n b.keys.c)) (ds := [15, 17]) #[false, false, false, false, false, false, false, false, false, false, false, false, false, false, false, false, false, false] (by kernel_rfl) rfl rfl ⟨xa0, xa1, xa2, xa3, xa4, xa5, xa6, xa7, xa8, xa9, xb0, xb1, xb2, xb3, xb4, xb5, xb6, xb7, xb8, xb9⟩ (fun hHeld => ?_)
            refine with_tabW insTab6 insBits6 (fun HT_ HW_ => ?_)
            have R4 := Aside0.mk (Kd.R_drew R3.out)
            have C4 := Aside0.mk C3.out.drew
            clear R3 C3
            generalize w3.drew = w4 at xa0 xa1 xa2 xa3 xa4 xa5 xa6 xa7 xa8 xa9 xb0 xb1 xb2 xb3 xb4 xb5 xb6 xb7 xb8 xb9 hfz R4 C4 hHeld ⊢
            refine pure_ (i := 0) (N := some 37) (v := ?_) (a' := ?_) #[true, false, false, false, false, false, false, false, false, false, false, false, false, false, false, false, false, false] rfl rfl (any_of HT_.out (by kernel_rfl)) (fun _ _ _ h => h) (Or.inl ⟨by rfl, ?_⟩) ?_ ?_
            rotate_left
            · intro w'
              go_simp
              with_reducible rfl
            rotate_left
            · simp only [Act.put, List.setIfInBounds_toArray, List.set_cons_zero, List.set_cons_succ, i64_w, i32_w]
              rfl
            refine pure_ (i := 1) (N := some 38) (v := ?_) (a' := ?_) #[true, true, false, false, false, false, false, false, false, false, false, false, false, false, false, false, false, false] rfl rfl (any_of HT_.out (by kernel_rfl)) (fun _ _ _ h => h) (Or.inl ⟨by rfl, ?_⟩) ?_ ?_
            rotate_left
            · intro w'
              go_simp
              with_reducible rfl
            rotate_left
            · simp only [Act.put, List.setIfInBounds_toArray, List.set_cons_zero, List.set_cons_succ, i64_w, i32_w]
              rfl
            refine pure_ (i := 2) (N := some 39) (v := ?_) (a' := ?_) #[true, true, true, false, false, false, false, false, false, false, false, false, false, false, false, false, false, false] rfl rfl (any_of HT_.out (by kernel_rfl)) (fun _ _ _ h => h) (Or.inl ⟨by rfl, ?_⟩) ?_ ?_
            rotate_left
            · intro w'
              go_simp
              with_reducible rfl
            rotate_left
            · simp only [Act.put, List.setIfInBounds_toArray, List.set_cons_zero, List.set_cons_succ, i64_w, i32_w]
              rfl
            refine pure_ (i := 3) (N := some 40) (v := ?_) (a' := ?_) #[true, true, true, true, false, false, false, false, false, false, false, false, false, false, false, false, false, false] rfl rfl (any_of HT_.out (by kernel_rfl)) (fun _ _ _ h => h) (Or.inl ⟨by rfl, ?_⟩) ?_ ?_
            rotate_left
            · intro w'
              go_simp
              with_reducible rfl
            rotate_left
            · simp only [Act.put, List.setIfInBounds_toArray, List.set_cons_zero, List.set_cons_succ, i64_w, i32_w]
              rfl
            refine pure_ (i := 4) (N := some 41) (v := ?_) (a' := ?_) #[true, true, true, true, true, false, false, false, false, false, false, false, false, false, false, false, false, false] rfl rfl (any_of HT_.out (by kernel_rfl)) (fun _ _ _ h => h) (Or.inl ⟨by rfl, ?_⟩) ?_ ?_
            rotate_left
            · intro w'
              go_simp
              with_reducible rfl
            rotate_left
            · simp only [Act.put, List.setIfInBounds_toArray, List.set_cons_zero, List.set_cons_succ, i64_w, i32_w]
              rfl
            refine pure_ (i := 5) (N := some 42) (v := ?_) (a' := ?_) #[true, true, true, true, true, true, false, false, false, false, false, false, false, false, false, false, false, false] rfl rfl (any_of HT_.out (by kernel_rfl)) (fun _ _ _ h => h) (Or.inl ⟨by rfl, ?_⟩) ?_ ?_
            rotate_left
            · intro w'
              go_simp
              with_reducible rfl
            rotate_left
            · simp only [Act.put, List.setIfInBounds_toArray, List.set_cons_zero, List.set_cons_succ, i64_w, i32_w]
              rfl
            refine pure_ (i := 6) (N := some 43) (v := ?_) (a' := ?_) #[true, true, true, true, true, true, true, false, false, false, false, false, false, false, false, false, false, false] rfl rfl (any_of HT_.out (by kernel_rfl)) (fun _ _ _ h => h) (Or.inl ⟨by rfl, ?_⟩) ?_ ?_
            rotate_left
            · intro w'
              go_simp
              with_reducible rfl
            rotate_left
            · simp only [Act.put, List.setIfInBounds_toArray, List.set_cons_zero, List.set_cons_succ, i64_w, i32_w]
              rfl
            refine pure_ (i := 7) (N := some 44) (v := ?_) (a' := ?_) #[true, true, true, true, true, true, true, true, false, false, false, false, false, false, false, false, false, false] rfl rfl (any_of HT_.out (by kernel_rfl)) (fun _ _ _ h => h) (Or.inl ⟨by rfl, ?_⟩) ?_ ?_
            rotate_left
            · intro w'
              go_simp
              with_reducible rfl
            rotate_left
            · simp only [Act.put, List.setIfInBounds_toArray, List.set_cons_zero, List.set_cons_succ, i64_w, i32_w]
              rfl
            refine pure_ (i := 8) (N := some 45) (v := ?_) (a' := ?_) #[true, true, true, true, true, true, true, true, true, false, false, false, false, false, false, false, false, false] rfl rfl (any_of HT_.out (by kernel_rfl)) (fun _ _ _ h => h) (Or.inl ⟨by rfl, ?_⟩) ?_ ?_
            rotate_left
            · intro w'
              go_simp
              with_reducible rfl
            rotate_left
            · simp only [Act.put, List.setIfInBounds_toArray, List.set_cons_zero, List.set_cons_succ, i64_w, i32_w]
              rfl
            refine pure_ (i := 10) (N := some 47) (v := ?_) (a' := ?_) #[true, true, true, true, true, true, true, true, true, false, true, false, false, false, false, false, false, false] rfl rfl (any_of HT_.out (by kernel_rfl)) (fun _ _ _ h => h) (Or.inl ⟨by rfl, ?_⟩) ?_ ?_
            rotate_left
            · intro w'
              go_simp
              with_reducible rfl
            rotate_left
            · simp only [Act.put, List.setIfInBounds_toArray, List.set_cons_zero, List.set_cons_succ, i64_w, i32_w]
              rfl
            refine pure_ (i := 11) (N := some 48) (v := ?_) (a' := ?_) #[true, true, true, true, true, true, true, true, true, false, true, true, false, false, false, false, false, false] rfl rfl (any_of HT_.out (by kernel_rfl)) (fun _ _ _ h => h) (Or.inl ⟨by rfl, ?_⟩) ?_ ?_
            rotate_left
            · intro w'
              go_simp
              with_reducible rfl
            rotate_left
            · simp only [Act.put, List.setIfInBounds_toArray, List.set_cons_zero, List.set_cons_succ, i64_w, i32_w]
              rfl
            refine pure_ (i := 12) (N := some 49) (v := ?_) (a' := ?_) #[true, true, true, true, true, true, true, true, true, false, true, true, true, false, false, false, false, false] rfl rfl (any_of HT_.out (by kernel_rfl)) (fun _ _ _ h => h) (Or.inl ⟨by rfl, ?_⟩) ?_ ?_
            rotate_left
            · intro w'
              go_simp
              with_reducible rfl
            rotate_left
            · simp only [Act.put, List.setIfInBounds_toArray, List.set_cons_zero, List.set_cons_succ, i64_w, i32_w]
              rfl
            refine take_ (i := 9) (N := some 46) (v := ?_) (a' := ?_) #[true, true, true, true, true, true, true, true, true, true, true, true, true, false, false, false, false, false] rfl rfl (take_ofW HT_.out HW_.out (by kernel_rfl)) (fun _ _ _ h => h) (Or.inl ⟨by rfl, ?_⟩) hHeld ?_ ?_
            rotate_left
            · rintro w' ⟨s0, s1, s2, s3, s4, s5, s6, s7, s8, s9, s10, s11, s12, s13, s14, s15, s16, s17, s18, s19⟩
              go_simp
              with_reducible rfl
            rotate_left
            · simp only [Act.put, List.setIfInBounds_toArray, List.set_cons_zero, List.set_cons_succ, i64_w, i32_w]
              rfl
            refine take_ (i := 13) (N := some 50) (v := ?_) (a' := ?_) #[true, true, true, true, true, true, true, true, true, true, true, true, true, true, false, false, false, false] rfl rfl (take_ofW HT_.out HW_.out (by kernel_rfl)) (fun _ _ _ h => h) (Or.inl ⟨by rfl, ?_⟩) hHeld ?_ ?_
            rotate_left
            · rintro w' ⟨s0, s1, s2, s3, s4, s5, s6, s7, s8, s9, s10, s11, s12, s13, s14, s15, s16, s17, s18, s19⟩
              go_simp
              with_reducible rfl
            rotate_left
            · simp only [Act.put, List.setIfInBounds_toArray, List.set_cons_zero, List.set_cons_succ, i64_w, i32_w]
              rfl
            refine pure_ (i := 14) (N := some 51) (v := ?_) (a' := ?_) #[true, true, true, true, true, true, true, true, true, true, true, true, true, true, true, false, false, false] rfl rfl (any_of HT_.out (by kernel_rfl)) (fun _ _ _ h => h) (Or.inl ⟨by rfl, ?_⟩) ?_ ?_
            rotate_left
            · intro w'
              go_simp
              with_reducible rfl
            rotate_left
            · simp only [Act.put, List.setIfInBounds_toArray, List.set_cons_zero, List.set_cons_succ, i64_w, i32_w]
              rfl
            refine last_ (i := 15) (N := none) #[true, true, true, true, true, true, true, true, true, true, true, true, true, true, true, true, false, false] rfl rfl (one_of HT_.out (by kernel_rfl)) (by decide) (fun K hK => ?_)
            refine skip_ (w1 := w4.setCells g ((j + 1) * 10) b.cells) (by rfl) rfl ?_ ?_
            · go_simp
              rfl
            refine hK.out _ _ ?_
            clear hK K
            have hfz5 : ∀ i, (w4.setCells g ((j + 1) * 10) b.cells).frozen? ⟨g, i, none⟩ = false := fun i => by rw [World.frozen?_setCells]; exact hfz i
            have yb0 : (w4.setCells g ((j + 1) * 10) b.cells).cell? ⟨g, j * 10, none⟩ = some (.int .i64 b.task) := by rw [World.cell?_setCells_out _ _ _ _ _ (fun _ _ => Or.inl (by show j * 10 < (j + 1) * 10; omega))]; exact xb0
            have yb1 : (w4.setCells g ((j + 1) * 10) b.cells).cell? ⟨g, j * 10 + 1, none⟩ = some (.int .i64 b.op) := by rw [World.cell?_setCells_out _ _ _ _ _ (fun _ _ => Or.inl (by show j * 10 + 1 < (j + 1) * 10; omega))]; exact xb1
            have yb2 : (w4.setCells g ((j + 1) * 10) b.cells).cell? ⟨g, j * 10 + 2, none⟩ = some (.string b.key) := by rw [World.cell?_setCells_out _ _ _ _ _ (fun _ _ => Or.inl (by show j * 10 + 2 < (j + 1) * 10; omega))]; exact xb2
            have yb3 : (w4.setCells g ((j + 1) * 10) b.cells).cell? ⟨g, j * 10 + 3, none⟩ = some (.slice b.data.A b.data.n b.data.c) := by rw [World.cell?_setCells_out _ _ _ _ _ (fun _ _ => Or.inl (by show j * 10 + 3 < (j + 1) * 10; omega))]; exact xb3
            have yb4 : (w4.setCells g ((j + 1) * 10) b.cells).cell? ⟨g, j * 10 + 4, none⟩ = some (.int .i64 b.fr) := by rw [World.cell?_setCells_out _ _ _ _ _ (fun _ _ => Or.inl (by show j * 10 + 4 < (j + 1) * 10; omega))]; exact xb4
            have yb5 : (w4.setCells g ((j + 1) * 10) b.cells).cell? ⟨g, j * 10 + 5, none⟩ = some (.int .i64 b.til) := by rw [World.cell?_setCells_out _ _ _ _ _ (fun _ _ => Or.inl (by show j * 10 + 5 < (j + 1) * 10; omega))]; exact xb5
            have yb6 : (w4.setCells g ((j + 1) * 10) b.cells).cell? ⟨g, j * 10 + 6, none⟩ = some (.int .i64 b.at_) := by rw [World.cell?_setCells_out _ _ _ _ _ (fun _ _ => Or.inl (by show j * 10 + 6 < (j + 1) * 10; omega))]; exact xb6
            have yb7 : (w4.setCells g ((j + 1) * 10) b.cells).cell? ⟨g, j * 10 + 7, none⟩ = some (.int .i64 b.e) := by rw [World.cell?_setCells_out _ _ _ _ _ (fun _ _ => Or.inl (by show j * 10 + 7 < (j + 1) * 10; omega))]; exact xb7
            have yb8 : (w4.setCells g ((j + 1) * 10) b.cells).cell? ⟨g, j * 10 + 8, none⟩ = some (.slice b.out.A b.out.n b.out.c) := by rw [World.cell?_setCells_out _ _ _ _ _ (fun _ _ => Or.inl (by show j * 10 + 8 < (j + 1) * 10; omega))]; exact xb8
            have yb9 : (w4.setCells g ((j + 1) * 10) b.cells).cell? ⟨g, j * 10 + 9, none⟩ = some (.slice b.keys.A b.keys.n b.keys.c) := by rw [World.cell?_setCells_out _ _ _ _ _ (fun _ _ => Or.inl (by show j * 10 + 9 < (j + 1) * 10; omega))]; exact xb9
            generalize hw5 : w4.setCells g ((j + 1) * 10) b.cells = w5 at hfz5 yb0 yb1 yb2 yb3 yb4 yb5 yb6 yb7 yb8 yb9 ⊢
            refine pure_ (i := 16) (N := some 52) (v := ?_) (a' := ?_) #[true, true, true, true, true, true, true, true, true, true, true, true, true, true, true, true, true, false] rfl rfl (any_of HT_.out (by kernel_rfl)) (fun _ _ _ h => h) (Or.inl ⟨by rfl, ?_⟩) ?_ ?_
            rotate_left
            · intro w'
              go_simp
              with_reducible rfl
            rotate_left
            · simp only [Act.put, List.setIfInBounds_toArray, List.set_cons_zero, List.set_cons_succ, i64_w, i32_w]
              rfl
            refine last_ (i := 17) (N := none) #[true, true, true, true, true, true, true, true, true, true, true, true, true, true, true, true, true, true] rfl rfl (one_of HT_.out (by kernel_rfl)) (by decide) (fun K hK => ?_)
            refine skip_ (w1 := w5.setCells g (j * 10) a.cells) (by rfl) rfl ?_ ?_
            · go_simp
              rfl
            refine hK.out _ _ ?_
            clear hK K
            refine done_ (done_of HT_.out (by kernel_rfl)) ?_
            have R6 := cl_put (cl_put R4.out (j + 1) (by have := HJ.out; omega) b) j (by have := HJ.out; omega) a
            rw [hw5] at R6
            have C6 : Ch w (w5.setCells g (j * 10) a.cells) (fun k => k = g) := by
              rw [← hw5]
              exact (((HC.out.then_ C4.out (fun _ h => h.elim)).setCells (Or.inl rfl) _ _).setCells (Or.inl rfl) _ _)
            have S6 : sink ((zs.set (j + 1) b).set j a) j = sink zs (j + 1) := by
              conv => rhs; unfold sink
              rw [HA.out, HB.out]
              dsimp only
              rw [if_pos hlt2]
            generalize w5.setCells g (j * 10) a.cells = w6 at R6 C6 ⊢
            go_wp2_with fail
            clear hw hfz hfz5 HT_ HW_ hHeld b1 b2 b3 xa0 xa1 xa2 xa3 xa4 xa5 xa6 xa7 xa8 xa9
            refine ⟨?_, ?measure⟩
            · clear HR xb0 xb1 xb2 xb3 xb4 xb5 xb6 xb7 xb8 xb9 yb0 yb1 yb2 yb3 yb4 yb5 yb6 yb7 yb8 yb9 R4 C4 hw5
              have hrel : ∃ (j' : Nat) (zs' : List Cl), Value.int .i64 j = .int .i64 j' ∧ Aside0 (j' ≤ i + 1) ∧ Aside0 (sink zs' j' = insF xs (i + 2)) ∧ Aside0 (kCl.R 29 w6 base ok (.slice (some ⟨g, 0, none⟩) n c) zs') ∧ Aside0 (Ch w w6 (fun k => k = g)) :=
                ⟨j, _, by go_num, ⟨by have := HJ.out; omega⟩, ⟨S6.trans HS.out⟩, ⟨R6⟩, ⟨C6⟩⟩
              iterate 36 apply Exists.intro
              refine ⟨hrel, ?_⟩
              rfl
            case measure => simp [intOf]
          · have hcm : ¬ cmpI a.at_ b.at_ < 0 := by
              unfold cmpI
              rw [if_neg hlt2]
              split <;> omega
            go_wp2_with fail
            go_still_tail 14, (by kernel_rfl)
            change wpList _ _ _ _ _ wr.drew
            go_wp2_with (go_at_call 10; go_must (refine (before_calls a b wr.drew).mono ?_; rintro e w3 ⟨rfl, hc3⟩; have C3 := Aside0.mk ((Ch.refl wr (fun _ => False)).drew.then_ hc3 (fun _ h => h.elim)); clear hc3))
            have S6 : sink zs (j + 1) = zs := by
              unfold sink
              rw [HA.out, HB.out]
              dsimp only
              rw [if_neg (by omega)]
            have HS2 := Aside0.mk (S6.symm.trans HS.out)
            go_roundw
            case rel => exact ⟨i + 1, by go_num, ⟨by omega⟩, ⟨Or.inr (by omega)⟩, ⟨HS2.out ▸ C3.out.R HR.out (fun _ _ h => h)⟩, ⟨HC.out.then_ C3.out (fun _ h => h.elim)⟩⟩
            case measure => simp [intOf]; omega
    · have hd : decide ((i : Int) + 1 < (n : Int)) = false := decide_eq_false (by omega)
      have hE : insF xs (i + 1) = insF xs n := by
        rcases HI2.out with h | h
        · subst h
          have : n = 0 ∨ n = 1 := by omega
          rcases this with h | h <;> subst h <;> rfl
        · have : n = i + 1 := by omega
          rw [this]
      go_wp2_with fail
      go_end0
      exact ⟨rfl, hE ▸ HR.out, HC.out⟩
end Go.Proofs.Ytjlmhppifjoijaa
