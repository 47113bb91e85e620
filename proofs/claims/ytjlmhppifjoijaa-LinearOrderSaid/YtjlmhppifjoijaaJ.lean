/- LinearNone. -/
import Derived.Test.YtjlmhppifjoijaaI
set_option linter.unusedVariables false
namespace Go.Proofs.Ytjlmhppifjoijaa
open Go.RowKit Go.Proofs.YtjlmhppifjoijaaW.PrintWords Go.Proofs.YtjlmhppifjoijaaW.PrintLast Go.Proofs.YtjlmhppifjoijaaW.PrintMore
def Cl.at0 (x : Cl) (v : Int) : Cl := { x with at_ := v }
def Cl.fr0 (x : Cl) (v : Int) : Cl := { x with fr := v }
/-- A row of calls after one cell is written. -/
theorem cl_put1 {w : World} {base : Nat} {ok : Nat → Prop} {g n c : Nat} {xs : List Cl} (h : kCl.R 29 w base ok (.slice (some ⟨g, 0, none⟩) n c) xs) (j q : Nat) (hj : j < n) (hq : q < 10) (u : Value) (x y : Cl) (hx : xs[j]? = some x) (hy : y.cells = x.cells.set q u) :
    kCl.R 29 (w.setCell ⟨g, j * 10 + q, none⟩ u) base ok (.slice (some ⟨g, 0, none⟩) n c) (xs.set j y) := by
  have hn : n = xs.length := (Kd.R_reads' h).1
  subst hn
  obtain ⟨hok, inner, ⟨hlen, ho⟩, hr⟩ := h
  rcases ho with ⟨he, _⟩ | ⟨g', cap, cur, he, hg, hc, hn1, hcm, hcs, htk⟩
  · cases he
  · cases he
    obtain ⟨cur', h3, h4, h5⟩ := setCells_row [u] (j * 10 + q) w cur hc (by rw [hcs]; show _ + 1 ≤ c * 10; omega)
    have h3' : (w.setCell ⟨g, j * 10 + q, none⟩ u).heap[g]? = _ := h3
    have hL : j * 10 + q + [u].length ≤ cur.toList.length := by
      have h0 : cur.toList.length = c * 10 := by rw [Array.length_toList, hcs]; rfl
      rw [h0]
      show _ + 1 ≤ c * 10
      omega
    have hcs' : cur.toList.length = c * 10 := by rw [Array.length_toList, hcs]; rfl
    have hc4 : cur'.toList.length = c * 10 := by rw [Array.length_toList, h4, hcs]; rfl
    refine ⟨hok, cur'.toList.take (xs.length * 10), ⟨?_, Or.inr ⟨g, c, cur', by rw [List.length_set], hg, h3', by rw [List.length_set]; exact hn1, hcm, by rw [h4, hcs], by rw [List.length_set]; rfl⟩⟩, ?_, ?_⟩
    · rw [List.length_set, List.length_take, hc4]
      show min (xs.length * 10) (c * 10) = xs.length * 10
      omega
    · rw [List.length_set, List.length_take, hc4]
      show min (xs.length * 10) (c * 10) = xs.length * 10
      omega
    · intro i p hp
      show List.take 10 (List.drop (i * 10) _) = p.cells
      have hi : i < xs.length := by
        have := (List.getElem?_eq_some_iff.mp hp).1
        rw [List.length_set] at this
        omega
      have hold : ∀ p', xs[i]? = some p' → ∀ r, r < 10 → cur.toList[i * 10 + r]? = p'.cells[r]? := by
        intro p' hp' r hr'
        have h1 : List.take 10 (List.drop (i * 10) inner) = p'.cells := hr.2 i p' hp'
        rw [← h1, List.getElem?_take_of_lt hr', List.getElem?_drop, ← htk]
        show _ = (cur.toList.take (xs.length * 10))[i * 10 + r]?
        rw [List.getElem?_take_of_lt (by omega)]
      have hget : ∀ r, r < 10 → (List.take 10 (List.drop (i * 10) (cur'.toList.take (xs.length * 10))))[r]? = if i = j ∧ r = q then some u else cur.toList[i * 10 + r]? := by
        intro r hr'
        rw [List.getElem?_take_of_lt hr', List.getElem?_drop, List.getElem?_take_of_lt (by omega), h5, get_mid _ _ _ hL]
        show (if i * 10 + r < j * 10 + q then _ else if i * 10 + r < j * 10 + q + 1 then _ else _) = _
        by_cases hij : i = j ∧ r = q
        · obtain ⟨rfl, rfl⟩ := hij
          rw [if_neg (Nat.lt_irrefl _), if_pos (by omega), if_pos ⟨rfl, rfl⟩, Nat.sub_self]
          rfl
        · rw [if_neg hij]
          by_cases h1 : i * 10 + r < j * 10 + q
          · rw [if_pos h1]
          · rw [if_neg h1, if_neg (by omega)]
      have hll : (List.take 10 (List.drop (i * 10) (cur'.toList.take (xs.length * 10)))).length ≤ 10 := by rw [List.length_take]; omega
      refine List.ext_getElem? (fun r => ?_)
      by_cases hr' : r < 10
      · rw [hget r hr']
        by_cases hij : i = j
        · subst hij
          rw [List.getElem?_set_self (by omega)] at hp
          cases hp
          rw [hy, hold x hx r hr']
          by_cases hrq : r = q
          · subst hrq
            rw [if_pos ⟨rfl, rfl⟩, List.getElem?_set_self (by rw [cl_len]; omega)]
          · rw [if_neg (fun h => hrq h.2), List.getElem?_set_ne (fun e => hrq e.symm)]
        · rw [if_neg (fun h => hij h.1)]
          rw [List.getElem?_set_ne (fun e => hij e.symm)] at hp
          exact hold p hp r hr'
      · rw [List.getElem?_eq_none (by omega), List.getElem?_eq_none (by rw [cl_len]; omega)]
theorem R_plain0 {α : Type} {d : Kd α} {e base : Nat} {w : World} {ok : Nat → Prop} {A : Option Addr} {m c : Nat} {xs : List α} (h : d.R e w base ok (.slice A m c) xs) : (A = none ∧ m = 0 ∧ c = 0 ∧ xs = []) ∨ ∃ g, A = some ⟨g, 0, none⟩ := by
  have hn := (Kd.R_reads' h).1
  obtain ⟨hok, inner, ⟨hlen, ho⟩, hr⟩ := h
  rcases ho with ⟨he, h2⟩ | ⟨g', cap, cur, he, _⟩
  · cases he
    exact Or.inl ⟨rfl, rfl, rfl, List.length_eq_zero_iff.1 hn.symm⟩
  · cases he
    exact Or.inr ⟨g', rfl⟩
/-- The first k calls did nothing yet. -/
def zeroed (xs : List Cl) (k : Nat) : List Cl := (xs.take k).map (fun x => x.at0 0) ++ xs.drop k
theorem zeroed_len (xs : List Cl) (k : Nat) : (zeroed xs k).length = xs.length := by
  unfold zeroed
  rw [List.length_append, List.length_map, List.length_take, List.length_drop]
  omega
theorem zeroed_at (xs : List Cl) (k : Nat) (x : Cl) (hx : xs[k]? = some x) : (zeroed xs k)[k]? = some x := by
  have hk := (List.getElem?_eq_some_iff.1 hx).1
  unfold zeroed
  rw [List.getElem?_append_right (by rw [List.length_map, List.length_take]; omega), List.length_map, List.length_take, List.getElem?_drop, ← hx]
  congr 1
  omega
theorem zeroed_succ (xs : List Cl) (k : Nat) (x : Cl) (hx : xs[k]? = some x) : zeroed xs (k + 1) = (zeroed xs k).set k (x.at0 0) := by
  have hk := (List.getElem?_eq_some_iff.1 hx).1
  unfold zeroed
  rw [List.take_add_one, hx, List.map_append, List.set_append_right _ _ (by rw [List.length_map, List.length_take]; omega), List.length_map, List.length_take, show k - min k xs.length = 0 by omega]
  obtain ⟨_, rfl⟩ := List.getElem?_eq_some_iff.1 hx
  have h := List.drop_eq_getElem_cons hk
  rw [h, List.set_cons_zero]
  simp
theorem live_zeroed (xs : List Cl) : live (zeroed xs xs.length) = [] := by
  unfold live zeroed
  rw [List.take_length, List.drop_length, List.append_nil, List.filter_eq_nil_iff]
  intro x hx
  obtain ⟨y, _, rfl⟩ := List.mem_map.1 hx
  simp [Cl.at0]
theorem check_zeroed (xs : List Cl) : checkF (zeroed xs xs.length) = true := by
  unfold checkF ordF
  rw [live_zeroed]
  rfl
theorem check_own (A : Option Addr) (m c : Nat) (xs : List Cl) (w : World) (base : Nat) (ok : Nat → Prop) (hR : kCl.R 29 w base ok (.slice A m c) xs) (hn : m ≤ 1000) (hl : (live xs).length ≤ 20) (hF : ∀ x, x ∈ live xs → Fit1 w x) :
    Calls Try.prog 7 #[.slice A m c] w fun e w' => e = .returned (.bool (checkF xs)) ∧ Ch w w' (fun _ => False) := by
  have h := Kd.R_reads' hR
  rcases R_plain0 hR with ⟨rfl, rfl, rfl, rfl⟩ | ⟨g, rfl⟩
  · exact check_nil w
  · exact check_calls g m c xs w (h.1 ▸ h.2.2) hn hl hF
section
variable {ops : Array Oper} {rest : List Oper} {o : Oper} {a : Act} {Q : Exit → Act → World → Prop}
theorem apCs {W : World} (base : Nat) (hgd : o.guard = none) (s x : Operand) (ho : o.op = .call { callee := .builtin .append, args := #[s, x], argTypes := #[24, 24] })
    (v : Value) (xs ys : List Cl) (A : Option Addr) (m c : Nat) (hs : a.eval s = v) (hx : a.eval x = .slice A m c)
    (HO : kCl.R 29 W base (fun k => base ≤ k) v xs) (HR : kCl.C W A m ys) (hbase : base ≤ W.heap.size) (hl : (xs.length + m) * 136 ≤ 140737488355328)
    (h : ∀ v1 w1, kCl.R 29 w1 base (fun k => base ≤ k) v1 (xs ++ ys) → Ch W w1 (fun k => v.ownBlock = some k) → wpList Try.prog ops Q rest (a.put o.dst v1) w1) :
    wpList Try.prog ops Q (o :: rest) a W :=
  apR kCl base hgd s x 24 29 zero29 136 ho Try.underlying24 inf29 rfl (by decide) (by omega) v xs ys A m c (fun k => base ≤ k) (fun _ => False) hs hx HO HR (fun _ _ h => h) (fun _ hk => hk.elim) (fun k hk => Nat.le_trans hbase hk) hbase hl fun v1 w1 hr hc _ => h v1 w1 hr hc
end
set_option maxHeartbeats 2000000 in
theorem none_calls (A : Option Addr) (n c : Nat) (xs : List Cl) (w : World) (hC : kCl.C w A n xs) :
    Calls Try.prog 4 #[.slice A n c] w fun e w' => e = .returned (.bool true) ∧ Ch w w' (fun _ => False) := by
  have HC0 := Aside0.mk hC
  have HL := Aside0.mk hC.1
  have hmax := hC.2.1
  clear hC
  by_cases h60 : 60 < n
  · have hd : decide ((60 : Int) < (n : Int)) = true := decide_eq_true (by omega)
    go_enter Try.func4, Try.ntmps4
    go_wp2_with (go_at_call 6; go_must (refine (answers_calls w).mono ?_; rintro e w1 ⟨rfl, c1⟩; have C1 := Aside0.mk c1; clear c1))
    go_ret
    exact ⟨rfl, C1.out⟩
  · have hd : decide ((60 : Int) < (n : Int)) = false := decide_eq_false (by omega)
    have RE := Aside0.mk (R_empty kCl 29 w w.heap.size (fun k => w.heap.size ≤ k) (Nat.le_refl _) (Nat.le_refl _))
    have CE := Aside0.mk ((Ch.refl w (fun _ => False)).alloc (.cells #[] 29))
    have HC1 := Aside0.mk (Kd.C_alloc HC0.out (.cells #[] 29))
    have HN := Aside0.mk (show (([] : List Cl).length + n) * 136 ≤ 140737488355328 from by simp; omega)
    have HSZ := Aside0.mk (show w.heap.size ≤ (w.alloc (.cells #[] 29)).heap.size from CE.out.size)
    go_enter Try.func4, Try.ntmps4
    go_wp2_with ((with_reducible refine gate_builtin (b := .append) (xs := #[.tmp 9, .tmp 10]) rfl ?_); at_builtin; go_must (refine apCs w.heap.size rfl _ _ rfl _ [] xs A n c rfl rfl RE.out HC1.out HSZ.out HN.out ?_; intro v1 w1 hr1 hc1; obtain ⟨A1, m1, c1', rfl⟩ := R_sl' hr1; have R1 := Aside0.mk hr1; have C1 := Aside0.mk (CE.out.then_ hc1 (fun j hj => Or.inr (R_okv RE.out j hj))); clear hr1 hc1))
    have HM := Aside0.mk (show m1 = xs.length ∧ m1 = n ∧ m1 ≤ 60 from by
      have h1 := (Kd.R_reads' R1.out).1
      have h2 := HL.out
      rw [List.nil_append] at h1
      exact ⟨h1, by omega, by omega⟩)
    have R2 := Aside0.mk (show kCl.R 29 w1 w.heap.size (fun k => w.heap.size ≤ k) (.slice A1 m1 c1') (zeroed xs 0) from by
      have h : zeroed xs 0 = xs := by simp [zeroed]
      rw [h]
      exact R1.out)
    clear R1 RE CE HC1 HN HSZ
    go_loopw [4] (fun i wr => ∃ (k : Nat), i = .int .i64 k ∧ Aside0 (k ≤ m1) ∧ Aside0 (kCl.R 29 wr w.heap.size (fun j => w.heap.size ≤ j) (.slice A1 m1 c1') (zeroed xs k)) ∧ Aside0 (Ch w wr (fun _ => False))) (fun i _ => m1 - (intOf i).toNat)
    case atStart => exact ⟨0, by go_num, ⟨Nat.zero_le _⟩, R2, C1⟩
    case round =>
      clear R2 C1
      obtain ⟨k, rfl, HK, HR, HC⟩ := hrel
      have hm60 : m1 ≤ 60 := HM.out.2.2
      by_cases hlt : k < m1
      · have hd : decide ((k : Int) < (m1 : Int)) = true := decide_eq_true (by omega)
        obtain ⟨x, hxk⟩ : ∃ x, xs[k]? = some x := ⟨_, List.getElem?_eq_getElem (by have := HM.out.1; omega)⟩
        rcases R_plain0 HR.out with ⟨_, h0, _⟩ | ⟨g, rfl⟩
        · omega
        have hz := zeroed_at xs k x hxk
        have hx6 : wr.cell? ⟨g, k * 10 + 6, none⟩ = some (.int .i64 x.at_) := cl_at HR.out k x hz 6 _ rfl
        have hG := Kd.R_typed HR.out g (by simp [Value.ownBlock])
        have hfz : ∀ i, wr.frozen? ⟨g, i, none⟩ = false := fun i => by
          obtain ⟨cells, hc⟩ := hG
          exact blk_frozen (w := wr) hc i
        have hgb : w.heap.size ≤ g := R_okv HR.out g rfl
        have R3 := Aside0.mk (cl_put1 HR.out k 6 hlt (by omega) (.int .i64 0) x (x.at0 0) hz rfl)
        have hE := zeroed_succ xs k x hxk
        have C3 := Aside0.mk (HC.out.setCell (p := ⟨g, k * 10 + 6, none⟩) (Or.inr hgb) (.int .i64 0))
        rw [← hE] at R3
        have b0 : (0 : Int) ≤ (k : Int) := by omega
        clear hG hz hxk hE
        go_wp2_with fail
        go_roundw
        case rel => exact ⟨k + 1, by go_num, ⟨by omega⟩, R3, C3⟩
        case measure => simp [intOf]; omega
      · have hd : decide ((k : Int) < (m1 : Int)) = false := decide_eq_false (by omega)
        have hE : zeroed xs k = zeroed xs xs.length := by
          have := HM.out.1
          have := HK.out
          rw [show k = xs.length by omega]
        go_wp2_with (go_at_call 6; go_must (refine (answers_calls wr).mono ?_; rintro e w2 ⟨rfl, c2⟩; have C2 := Aside0.mk (HC.out.then_ c2 (fun _ h => h.elim)); have R4 := Aside0.mk (c2.R HR.out (fun _ _ h => h)); clear c2))
        rw [hE] at R4
        have KC := Aside0.mk (check_own A1 m1 c1' _ w2 _ _ R4.out (by omega) (by rw [live_zeroed]; simp) (fun x hx => by rw [live_zeroed] at hx; cases hx))
        rw [check_zeroed] at KC
        refine KC.out.mono ?_
        rintro e w3 ⟨rfl, c3⟩
        have C3 := Aside0.mk (C2.out.then_ c3 (fun _ h => h.elim))
        clear c3
        go_wp2_with (go_at_call 7; go_must (refine (check_nil w3).mono ?_; rintro e w4 ⟨rfl, c4⟩; have C4 := Aside0.mk (C3.out.then_ c4 (fun _ h => h.elim)); clear c4))
        go_ret
        exact ⟨rfl, C4.out⟩
end Go.Proofs.Ytjlmhppifjoijaa
