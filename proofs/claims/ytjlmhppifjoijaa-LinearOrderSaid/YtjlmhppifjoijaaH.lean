/- Check. -/
import Derived.Test.YtjlmhppifjoijaaG
set_option linter.unusedVariables false
namespace Go.Proofs.Ytjlmhppifjoijaa
open Go.RowKit Go.Proofs.YtjlmhppifjoijaaW.PrintWords Go.Proofs.YtjlmhppifjoijaaW.PrintLast Go.Proofs.YtjlmhppifjoijaaW.PrintMore
def zero29 : Value := .agg #[.int .i64 0, .int .i64 0, .string ⟨#[]⟩, .slice none 0 0, .int .i64 0, .int .i64 0, .int .i64 0, .int .i64 0, .slice none 0 0, .slice none 0 0]
theorem inf29 : (Try.prog.info? 29).map (fun i => (i.zero, i.size, i.bytes)) = some (some zero29, 10, 136) := by kernel_rfl
section
variable {ops : Array Oper} {rest : List Oper} {o : Oper} {a : Act} {Q : Exit → Act → World → Prop}
theorem apC {W : World} (base : Nat) (hgd : o.guard = none) (s x : Operand) (ho : o.op = .call { callee := .builtin .append, args := #[s, x], argTypes := #[24, 24] })
    (v : Value) (xs : List Cl) (p : Cl) (hs : a.eval s = v) (B : Nat) (hx : a.eval x = .slice (some ⟨B, 0, none⟩) 1 1) (hB : B = W.heap.size)
    (HO : kCl.R 29 W base (fun k => base ≤ k) v xs) (hbase : base ≤ W.heap.size) (hl : (xs.length + 1) * 136 ≤ 140737488355328)
    (h : ∀ v1 w1, kCl.R 29 w1 base (fun k => base ≤ k) v1 (xs ++ [p]) → Ch W w1 (fun k => v.ownBlock = some k) → wpList Try.prog ops Q rest (a.put o.dst v1) w1) :
    wpList Try.prog ops Q (o :: rest) a (W.alloc (.cells p.cells.toArray 29)) := by
  subst hB
  exact apO kCl base hgd s x 24 29 zero29 136 ho Try.underlying24 inf29 rfl (by decide) (by omega) v xs p p.cells (fun k => base ≤ k) (fun _ => False) hs hx rfl (fun _ hk => hk.elim) (fun k hk => Nat.le_trans hbase hk) HO hbase hl fun v1 w1 hr hc _ => h v1 w1 hr hc
end
def live (xs : List Cl) : List Cl := xs.filter fun x => decide (0 < x.at_)
def ordF (xs : List Cl) : List Cl := insF (live xs) (live xs).length
def goodT (x : Cl) : Bool := !decide (x.at_ < x.fr) && !(decide (0 < x.til) && decide (x.til < x.at_))
def runF : List Cl → Wd → Bool
  | [], _ => true
  | x :: r, f => goodT x && okF f x && runF r (doF f x)
def checkF (xs : List Cl) : Bool := runF (ordF xs) fun _ => none
/-- A call that the contracts serve. -/
def Fit1 (w : World) (x : Cl) : Prop := (x.op = 1 ∨ x.op = 2) ∧ (x.e = 0 ∨ x.e = 7) ∧ x.key.size ≤ maxLen ∧ Rd w x.data ∧ Rd w x.out
theorem clC_at {w : World} {g n : Nat} {xs : List Cl} (h : kCl.C w (some ⟨g, 0, none⟩) n xs) (j : Nat) (x : Cl) (hx : xs[j]? = some x) :
    ∀ k u, x.cells[k]? = some u → w.cell? ⟨g, j * 10 + k, none⟩ = some u := by
  have hj : j < xs.length := (List.getElem?_eq_some_iff.1 hx).1
  obtain ⟨ad, e, hall⟩ := h.2.2 (by have := h.1; omega)
  injection e with e
  subst e
  obtain ⟨cs, hl, hK, hc⟩ := hall j x hx
  have hK' : cs = x.cells := hK
  subst hK'
  intro k u hu
  have := hc k u hu
  rwa [add_plain] at this
theorem live_snoc (xs : List Cl) (k : Nat) (x : Cl) (hx : xs[k]? = some x) : live (xs.take (k + 1)) = if 0 < x.at_ then live (xs.take k) ++ [x] else live (xs.take k) := by
  unfold live
  rw [List.take_add_one, hx, List.filter_append]
  by_cases h : 0 < x.at_ <;> simp [h]
theorem R_sl' {α : Type} {d : Kd α} {e : Nat} {w : World} {base : Nat} {ok : Nat → Prop} {v : Value} {xs : List α} (h : d.R e w base ok v xs) : ∃ A m c, v = .slice A m c := by
  obtain ⟨A, c, e⟩ := Kd.R_slice h
  exact ⟨A, _, c, e⟩
theorem R_okv {α : Type} {d : Kd α} {e base : Nat} {w : World} {ok : Nat → Prop} {v : Value} {xs : List α} (h : d.R e w base ok v xs) : ∀ k, v.ownBlock = some k → ok k := h.1
theorem R_plain {α : Type} {d : Kd α} {e base : Nat} {w : World} {ok : Nat → Prop} {A : Option Addr} {m c : Nat} {xs : List α} (h : d.R e w base ok (.slice A m c) xs) : (A = none ∧ m = 0 ∧ xs = []) ∨ ∃ g, A = some ⟨g, 0, none⟩ := by
  have hn := (Kd.R_reads' h).1
  obtain ⟨hok, inner, ⟨hlen, ho⟩, hr⟩ := h
  rcases ho with ⟨he, h2⟩ | ⟨g', cap, cur, he, _⟩
  · cases he
    exact Or.inl ⟨rfl, rfl, List.length_eq_zero_iff.1 hn.symm⟩
  · cases he
    exact Or.inr ⟨g', rfl⟩
set_option maxHeartbeats 400000 in
theorem stable_nil (c : Nat) (A : Option Addr) (w : World) : Calls Try.prog 13 #[.slice A 0 c, .int .i64 0, .func (.func 10) #[] #[]] w fun e w' => e = .returned (.tuple #[]) ∧ w' = w := by
  go_enter Try.func13, Try.ntmps13
  go_wp2_with fail
  refine wp_loop_rounds 1 ?_
  rw [rounds_succ]
  go_wp2_with (go_at_call 20; go_must (refine (ins_skip A 0 c 0 0 (by omega) (by omega) (by omega) w).mono ?_; rintro e w2 ⟨rfl, rfl⟩))
  refine wp_loop_rounds 1 ?_
  rw [rounds_succ]
  go_wp2_with fail
  go_end0
  exact ⟨rfl, rfl⟩
set_option maxHeartbeats 400000 in
theorem sort_calls (A : Option Addr) (m c : Nat) (xs : List Cl) (w : World) (base : Nat) (ok : Nat → Prop) (hR : kCl.R 29 w base ok (.slice A m c) xs) (hm : m ≤ 20) :
    Calls Try.prog 9 #[.slice A m c, .func (.func 10) #[] #[]] w fun e w' => e = .returned (.tuple #[]) ∧ kCl.R 29 w' base ok (.slice A m c) (insF xs m) ∧ Ch w w' (fun k => ok k) := by
  have HR := Aside0.mk hR
  rcases R_plain hR with ⟨rfl, rfl, rfl⟩ | ⟨g, rfl⟩
  · clear hR
    go_enter Try.func9, Try.ntmps9
    go_wp2_with (go_at_call 13; go_must (refine (stable_nil c none w).mono ?_; rintro e w1 ⟨rfl, rfl⟩))
    go_end0
    exact ⟨rfl, HR.out, Ch.refl _ _⟩
  · have hg : ok g := R_okv hR g rfl
    have HG := Aside0.mk hg
    clear hR hg
    go_enter Try.func9, Try.ntmps9
    go_wp2_with (go_at_call 13; go_must (refine (stable_calls g m c xs w base ok HR.out hm).mono ?_; rintro e w1 ⟨rfl, r1, c1⟩; have R1 := Aside0.mk r1; have C1 := Aside0.mk c1; clear r1 c1))
    go_end0
    exact ⟨rfl, R1.out, C1.out.mono (fun k hk => hk ▸ HG.out)⟩
theorem R_ok {e base : Nat} {w : World} {ok ok' : Nat → Prop} {v : Value} {xs : List Cl} (h : kCl.R e w base ok v xs) (hk : ∀ k, v.ownBlock = some k → ok' k) : kCl.R e w base ok' v xs := ⟨hk, h.2⟩
theorem goodT_1 {x : Cl} (h : x.at_ < x.fr) : goodT x = false := by simp [goodT, h]
theorem goodT_2 {x : Cl} (h1 : 0 < x.til) (h2 : x.til < x.at_) : goodT x = false := by simp [goodT, h1, h2]
theorem goodT_3 {x : Cl} (h : ¬ x.at_ < x.fr) (h1 : ¬ 0 < x.til) : goodT x = true := by simp [goodT, h1]; omega
theorem goodT_4 {x : Cl} (h : ¬ x.at_ < x.fr) (h1 : ¬ x.til < x.at_) : goodT x = true := by simp [goodT]; omega
theorem run_at {ys : List Cl} {k : Nat} {x : Cl} (h : ys[k]? = some x) (f : Wd) : runF (ys.drop k) f = (goodT x && okF f x && runF (ys.drop (k + 1)) (doF f x)) := by
  obtain ⟨hk, rfl⟩ := List.getElem?_eq_some_iff.1 h
  rw [List.drop_eq_getElem_cons hk]
  rfl
theorem doF_from {ys : List Cl} {f : Wd} {x : Cl} (hx : x ∈ ys) (h : ∀ q s, f q = some s → ∃ x, x ∈ ys ∧ x.data = s) : ∀ q s, doF f x q = some s → ∃ x, x ∈ ys ∧ x.data = s := by
  intro q s hs
  unfold doF at hs
  split at hs
  · unfold Wd.put at hs
    split at hs
    · injection hs with hs
      exact ⟨x, hx, hs⟩
    · exact h q s hs
  · exact h q s hs
def GCk (w w' : World) (e : Ending) (xs : List Cl) : Prop := e = .returned (.bool (checkF xs)) ∧ Ch w w' (fun _ => False)
set_option maxHeartbeats 4000000 in
theorem check_calls (g n c : Nat) (xs : List Cl) (w : World) (hC : kCl.C w (some ⟨g, 0, none⟩) n xs) (hn : n ≤ 1000) (hl : (live xs).length ≤ 20) (hF : ∀ x, x ∈ live xs → Fit1 w x) :
    Calls Try.prog 7 #[.slice (some ⟨g, 0, none⟩) n c] w fun e w' => e = .returned (.bool (checkF xs)) ∧ Ch w w' (fun _ => False) := by
  have HC0 := Aside0.mk hC
  have HL := Aside0.mk hC.1
  have HLV := Aside0.mk hl
  have HF := Aside0.mk hF
  have hmm := @run_makeMap Try.prog
  clear hC hl hF
  go_enter Try.func7, Try.ntmps7
  go_wp2_with fail
  go_loopw [3, 11] (fun v i wr => ∃ (k : Nat) (A : Option Addr) (m c' : Nat), v = .slice A m c' ∧ i = .int .i64 k ∧ Aside0 (k ≤ n) ∧ Aside0 (kCl.R 29 wr w.heap.size (fun j => w.heap.size ≤ j) (.slice A m c') (live (xs.take k))) ∧ Aside0 (Ch w wr (fun _ => False))) (fun _ i _ => n - (intOf i).toNat)
  case atStart => exact ⟨0, none, 0, 0, rfl, by go_num, ⟨by omega⟩, ⟨Kd.R_nil _ _ _ _ _⟩, ⟨Ch.refl _ _⟩⟩
  case round =>
    obtain ⟨k, A, m, c', rfl, rfl, HK, HR, HC⟩ := hrel
    by_cases hlt : k < n
    · have hd : decide ((k : Int) < (n : Int)) = true := decide_eq_true (by omega)
      obtain ⟨x, hxk⟩ : ∃ x, xs[k]? = some x := ⟨_, List.getElem?_eq_getElem (by have := HL.out; omega)⟩
      have hx := clC_at (Kd.C_below HC0.out (HC.out.quiet fun _ h => h.elim)) k x hxk
      have c0 : wr.cell? ⟨g, k * 10, none⟩ = some (.int .i64 x.task) := hx 0 _ rfl
      have c1 : wr.cell? ⟨g, k * 10 + 1, none⟩ = some (.int .i64 x.op) := hx 1 _ rfl
      have c2 : wr.cell? ⟨g, k * 10 + 2, none⟩ = some (.string x.key) := hx 2 _ rfl
      have c3 : wr.cell? ⟨g, k * 10 + 3, none⟩ = some (.slice x.data.A x.data.n x.data.c) := hx 3 _ rfl
      have c4 : wr.cell? ⟨g, k * 10 + 4, none⟩ = some (.int .i64 x.fr) := hx 4 _ rfl
      have c5 : wr.cell? ⟨g, k * 10 + 5, none⟩ = some (.int .i64 x.til) := hx 5 _ rfl
      have c6 : wr.cell? ⟨g, k * 10 + 6, none⟩ = some (.int .i64 x.at_) := hx 6 _ rfl
      have c7 : wr.cell? ⟨g, k * 10 + 7, none⟩ = some (.int .i64 x.e) := hx 7 _ rfl
      have c8 : wr.cell? ⟨g, k * 10 + 8, none⟩ = some (.slice x.out.A x.out.n x.out.c) := hx 8 _ rfl
      have c9 : wr.cell? ⟨g, k * 10 + 9, none⟩ = some (.slice x.keys.A x.keys.n x.keys.c) := hx 9 _ rfl
      have HX := Aside0.mk hxk
      clear hx hxk
      have b0 : (0 : Int) ≤ (k : Int) := by omega
      by_cases hat : 0 < x.at_
      · have hdt : decide (0 < x.at_) = true := decide_eq_true hat
        have hsz : w.heap.size ≤ wr.heap.size := HC.out.size
        have CA := Aside0.mk (HC.out.alloc (.cells x.cells.toArray 29))
        have RA := Aside0.mk (((Ch.refl wr (fun _ => False)).alloc (.cells x.cells.toArray 29)).R HR.out (fun _ _ h => h))
        have HN := Aside0.mk (show ((live (xs.take k)).length + 1) * 136 ≤ 140737488355328 from by
          have h1 := (Kd.R_reads' HR.out).1
          have h2 : (live (xs.take k)).length ≤ (xs.take k).length := List.length_filter_le _ _
          have h3 : (xs.take k).length ≤ k := List.length_take_le _ _
          omega)
        have HSZ := Aside0.mk (show w.heap.size ≤ (wr.alloc (.cells x.cells.toArray 29)).heap.size from CA.out.size)
        have HSB := Aside0.mk (show wr.heap.size + 1 = (wr.alloc (.cells x.cells.toArray 29)).heap.size from by simp)
        have hE : live (xs.take (k + 1)) = live (xs.take k) ++ [x] := by rw [live_snoc _ _ _ HX.out, if_pos hat]
        have HE := Aside0.mk hE
        clear hE
        go_wp2_with ((with_reducible refine gate_builtin (b := .append) (xs := #[.tmp 18, .tmp 20]) rfl ?_); at_builtin; go_must (refine apC w.heap.size rfl _ _ rfl (.slice A m c') _ x rfl _ rfl HSB.out RA.out HSZ.out HN.out ?_; intro v1 w1 hr1 hc1; obtain ⟨A1, m1, c1', rfl⟩ := R_sl' hr1; have R1 := Aside0.mk hr1; have C1 := Aside0.mk (CA.out.then_ hc1 (fun j hj => Or.inr (R_okv RA.out j hj))); clear hr1 hc1))
        go_roundw
        case rel => exact ⟨k + 1, A1, m1, c1', rfl, by go_num, ⟨by omega⟩, ⟨HE.out ▸ R1.out⟩, C1⟩
        case measure => simp [intOf]; omega
      · have hdt : decide (0 < x.at_) = false := decide_eq_false hat
        have CA := Aside0.mk (HC.out.alloc (.cells x.cells.toArray 29))
        have RA := Aside0.mk (((Ch.refl wr (fun _ => False)).alloc (.cells x.cells.toArray 29)).R HR.out (fun _ _ h => h))
        have hE : live (xs.take (k + 1)) = live (xs.take k) := by rw [live_snoc _ _ _ HX.out, if_neg hat]
        have HE := Aside0.mk hE
        clear hE
        go_wp2_with fail
        go_roundw
        case rel => exact ⟨k + 1, A, m, c', rfl, by go_num, ⟨by omega⟩, ⟨HE.out ▸ RA.out⟩, CA⟩
        case measure => simp [intOf]; omega
    · have hd : decide ((k : Int) < (n : Int)) = false := decide_eq_false (by omega)
      have hE : live (xs.take k) = live xs := by rw [List.take_of_length_le (by have := HL.out; omega)]
      have R0 := Aside0.mk (hE ▸ HR.out)
      clear HR hE
      have HM := Aside0.mk (show m = (live xs).length ∧ m ≤ 20 from ⟨(Kd.R_reads' R0.out).1, (Kd.R_reads' R0.out).1 ▸ HLV.out⟩)
      go_wp2_with (go_at_call 9; go_must (refine (sort_calls A m c' _ wr _ _ R0.out HM.out.2).mono ?_; rintro e w1 ⟨rfl, r1, c1⟩; have R1 := Aside0.mk r1; have C1 := Aside0.mk (HC.out.then_ c1 (fun j hj => Or.inr hj)); clear r1 c1))
      obtain ⟨ys, hys⟩ : ∃ ys, ys = ordF xs := ⟨_, rfl⟩
      have hy1 : insF (live xs) m = ys := by rw [hys, HM.out.1]; rfl
      have RY := Aside0.mk (((Ch.refl w1 (fun _ => False)).alloc (.map #[] 0)).R (R_ok (hy1 ▸ R1.out) (fun j hj => (show j ≠ w1.heap.size from by have := Kd.R_lt R1.out j hj; omega))) (fun _ _ h => h))
      have HYL := Aside0.mk (show ys.length = m from by rw [← hy1, insF_length, HM.out.1])
      have HYF := Aside0.mk (show ∀ x, x ∈ ys → Fit1 w x from fun x hx => HF.out x ((insF_perm _ _).mem_iff.1 (hy1 ▸ hx)))
      have CY := Aside0.mk (C1.out.alloc (.map #[] 0))
      have HB := Aside0.mk (show w.heap.size ≤ w1.heap.size ∧ w1.heap.size < (w1.alloc (.map #[] 0)).heap.size from ⟨C1.out.size, by simp⟩)
      have HMW := Aside0.mk (MapW.made w1)
      have HE := Aside0.mk (show checkF xs = runF (ys.drop 0) (fun _ => none) from by rw [hys]; rfl)
      clear hy1 hys R1 C1 R0
      obtain ⟨bm, hbm⟩ : ∃ bm, bm = w1.heap.size := ⟨_, rfl⟩
      rw [← hbm] at HB HMW RY ⊢
      clear hbm
      go_loopw [28] (fun i wr => ∃ (k : Nat) (f : Wd), i = .int .i64 k ∧ Aside0 (k ≤ m) ∧ Aside0 (kCl.R 29 wr w.heap.size (fun j => j ≠ bm) (.slice A m c') ys) ∧ Aside0 (Ch w wr (fun _ => False)) ∧ Aside0 (MapW wr bm k f) ∧ Aside0 (checkF xs = runF (ys.drop k) f) ∧ Aside0 (∀ q s, f q = some s → ∃ x, x ∈ ys ∧ x.data = s)) (fun i _ => m - (intOf i).toNat)
      case atStart => exact ⟨0, _, by go_num, ⟨Nat.zero_le _⟩, RY, CY, HMW, HE, ⟨fun q s h => by cases h⟩⟩
      case round =>
        clear HE HMW RY HC
        have hm20 : m ≤ 20 := HM.out.2
        obtain ⟨k, f, rfl, HK, HR, HC, HMW, HE, HFR⟩ := hrel
        by_cases hlt : k < m
        · have hd : decide ((k : Int) < (m : Int)) = true := decide_eq_true (by omega)
          obtain ⟨x, hxk⟩ : ∃ x, ys[k]? = some x := ⟨_, List.getElem?_eq_getElem (by have := HYL.out; omega)⟩
          have hxm : x ∈ ys := List.mem_of_getElem? hxk
          have hfit := HYF.out x hxm
          rcases R_plain HR.out with ⟨_, h0, _⟩ | ⟨g2, rfl⟩
          · omega
          have hx := cl_at HR.out k x hxk
          have c0 : wr.cell? ⟨g2, k * 10, none⟩ = some (.int .i64 x.task) := hx 0 _ rfl
          have c1 : wr.cell? ⟨g2, k * 10 + 1, none⟩ = some (.int .i64 x.op) := hx 1 _ rfl
          have c2 : wr.cell? ⟨g2, k * 10 + 2, none⟩ = some (.string x.key) := hx 2 _ rfl
          have c3 : wr.cell? ⟨g2, k * 10 + 3, none⟩ = some (.slice x.data.A x.data.n x.data.c) := hx 3 _ rfl
          have c4 : wr.cell? ⟨g2, k * 10 + 4, none⟩ = some (.int .i64 x.fr) := hx 4 _ rfl
          have c5 : wr.cell? ⟨g2, k * 10 + 5, none⟩ = some (.int .i64 x.til) := hx 5 _ rfl
          have c6 : wr.cell? ⟨g2, k * 10 + 6, none⟩ = some (.int .i64 x.at_) := hx 6 _ rfl
          have c7 : wr.cell? ⟨g2, k * 10 + 7, none⟩ = some (.int .i64 x.e) := hx 7 _ rfl
          have c8 : wr.cell? ⟨g2, k * 10 + 8, none⟩ = some (.slice x.out.A x.out.n x.out.c) := hx 8 _ rfl
          have c9 : wr.cell? ⟨g2, k * 10 + 9, none⟩ = some (.slice x.keys.A x.keys.n x.keys.c) := hx 9 _ rfl
          have HX := Aside0.mk hxk
          have HXM := Aside0.mk hxm
          clear hx
          have b0 : (0 : Int) ≤ (k : Int) := by omega
          have hW := (Ch.refl wr (fun _ => False)).alloc (.cells x.cells.toArray 29)
          have CA := Aside0.mk (HC.out.alloc (.cells x.cells.toArray 29))
          have RA := Aside0.mk (hW.R HR.out (fun _ _ h => h))
          have KD := Aside0.mk (do_calls x (wr.alloc (.cells x.cells.toArray 29)) bm k f (HMW.out.Ch hW (fun h => h)) (by have := HM.out; omega) hfit.2.2.1 hfit.1 hfit.2.1 (hfit.2.2.2.2.Ch CA.out) (fun s hs => by
            obtain ⟨y, hy, rfl⟩ := HFR.out _ s hs
            exact (HYF.out y hy).2.2.2.1.Ch CA.out))
          have HU := Aside0.mk (HE.out.trans (run_at hxk f))
          have HRF := Aside0.mk (doF_from hxm HFR.out)
          simp only [Cl.cells] at KD RA CA
          clear hW hxk hxm hfit
          by_cases h1 : x.at_ < x.fr
          · have hd1 : decide (x.at_ < x.fr) = true := decide_eq_true h1
            have HG := Aside0.mk (goodT_1 h1)
            go_wp2_with fail
            go_ret
            exact ⟨by rw [HU.out, HG.out]; rfl, CA.out⟩
          · have hd1 : decide (x.at_ < x.fr) = false := decide_eq_false h1
            by_cases h2 : 0 < x.til
            · have hd2 : decide (0 < x.til) = true := decide_eq_true h2
              by_cases h3 : x.til < x.at_
              · have hd3 : decide (x.til < x.at_) = true := decide_eq_true h3
                have HG := Aside0.mk (goodT_2 h2 h3)
                go_wp2_with fail
                go_ret
                exact ⟨by rw [HU.out, HG.out]; rfl, CA.out⟩
              · have hd3 : decide (x.til < x.at_) = false := decide_eq_false h3
                have HG := Aside0.mk (goodT_4 h1 h3)
                cases hok : okF f x with
                | false =>
                  rw [hok] at KD
                  go_wp2_with (go_at_call 12; go_must (refine KD.out.mono ?_; rintro e w2 ⟨rfl, hm2, hc2⟩; have M2 := Aside0.mk hm2; have R2 := Aside0.mk (hc2.R RA.out (fun _ h => h)); have C2 := Aside0.mk (CA.out.then_ hc2 (fun j hj => Or.inr (hj ▸ HB.out.1))); clear hm2 hc2))
                  go_ret
                  exact ⟨by rw [HU.out, HG.out, hok]; rfl, C2.out⟩
                | true =>
                  rw [hok] at KD
                  have HV := Aside0.mk (show checkF xs = runF (ys.drop (k + 1)) (doF f x) from by rw [HU.out, HG.out, hok]; rfl)
                  go_wp2_with (go_at_call 12; go_must (refine KD.out.mono ?_; rintro e w2 ⟨rfl, hm2, hc2⟩; have M2 := Aside0.mk hm2; have R2 := Aside0.mk (hc2.R RA.out (fun _ h => h)); have C2 := Aside0.mk (CA.out.then_ hc2 (fun j hj => Or.inr (hj ▸ HB.out.1))); clear hm2 hc2))
                  go_roundw
                  case rel => exact ⟨k + 1, _, by go_num, ⟨by omega⟩, R2, C2, M2, HV, HRF⟩
                  case measure => simp [intOf]; omega
            · have hd2 : decide (0 < x.til) = false := decide_eq_false h2
              have HG := Aside0.mk (goodT_3 h1 h2)
              cases hok : okF f x with
              | false =>
                rw [hok] at KD
                go_wp2_with (go_at_call 12; go_must (refine KD.out.mono ?_; rintro e w2 ⟨rfl, hm2, hc2⟩; have M2 := Aside0.mk hm2; have R2 := Aside0.mk (hc2.R RA.out (fun _ h => h)); have C2 := Aside0.mk (CA.out.then_ hc2 (fun j hj => Or.inr (hj ▸ HB.out.1))); clear hm2 hc2))
                go_ret
                exact ⟨by rw [HU.out, HG.out, hok]; rfl, C2.out⟩
              | true =>
                rw [hok] at KD
                have HV := Aside0.mk (show checkF xs = runF (ys.drop (k + 1)) (doF f x) from by rw [HU.out, HG.out, hok]; rfl)
                go_wp2_with (go_at_call 12; go_must (refine KD.out.mono ?_; rintro e w2 ⟨rfl, hm2, hc2⟩; have M2 := Aside0.mk hm2; have R2 := Aside0.mk (hc2.R RA.out (fun _ h => h)); have C2 := Aside0.mk (CA.out.then_ hc2 (fun j hj => Or.inr (hj ▸ HB.out.1))); clear hm2 hc2))
                go_roundw
                case rel => exact ⟨k + 1, _, by go_num, ⟨by omega⟩, R2, C2, M2, HV, HRF⟩
                case measure => simp [intOf]; omega
        · have hd : decide ((k : Int) < (m : Int)) = false := decide_eq_false (by omega)
          have hT : checkF xs = true := by
            rw [HE.out, List.drop_of_length_le (by have := HYL.out; omega)]
            rfl
          go_wp2_with fail
          go_ret
          exact ⟨by rw [hT]; rfl, HC.out⟩
end Go.Proofs.Ytjlmhppifjoijaa
