/- The reference's tape in memory; its Write. -/
import Derived.Test.YtgehempmccponaaI
set_option linter.unusedVariables false
namespace Go.Proofs.Ytgehempmccponaa
open Go.RowKit Go.Proofs.YtgehempmccponaaW.PrintWords Go.Proofs.YtgehempmccponaaW.PrintLast Go.Proofs.YtgehempmccponaaW.PrintMore
def rcells (v : Vals) (t : Tp) : Array Value :=
  #[v.b0, v.l0, .bool t.s0.wet, .bool t.s0.swap, .bool t.s0.lost, v.b1, v.l1, .bool t.s1.wet, .bool t.s1.swap, .bool t.s1.lost, .int .i64 t.fuse, .bool t.down]
def TapeR (w : World) (base : Nat) (ok : Nat → Prop) (g : Nat) (t : Tp) : Prop :=
  ∃ v : Vals, w.heap[g]? = some (.cells (rcells v t) 32 (0, 0)) ∧ Rows4 w base ok v t
theorem TapeR.mono {w : World} {base g : Nat} {ok ok' : Nat → Prop} {t : Tp} (h : TapeR w base ok g t) (hn : ∀ k, ok k → ok' k) : TapeR w base ok' g t := by
  obtain ⟨v, hg, hr⟩ := h
  exact ⟨v, hg, hr.mono hn⟩
theorem writeF_0 {t t1 : Tp} {bs : List Int} {swap : Bool} (hd : t.down = false) (hl : (t.s0.lost && t.s1.lost) = false) (h : turnF t 0 bs swap = (t1, false)) : writeF t bs swap = (t1, 9) := by
  simp [writeF, hd, hl, h]
theorem writeF_1 {t t1 t2 : Tp} {bs : List Int} {swap : Bool} (hd : t.down = false) (hl : (t.s0.lost && t.s1.lost) = false) (h : turnF t 0 bs swap = (t1, true)) (h2 : turnF t1 1 bs swap = (t2, false)) : writeF t bs swap = (t2, 9) := by
  simp [writeF, hd, hl, h, h2]
theorem writeF_2 {t t1 t2 : Tp} {bs : List Int} {swap : Bool} (hd : t.down = false) (hl : (t.s0.lost && t.s1.lost) = false) (h : turnF t 0 bs swap = (t1, true)) (h2 : turnF t1 1 bs swap = (t2, true)) : writeF t bs swap = (t2, 0) := by
  simp [writeF, hd, hl, h, h2]
/-- What a turn at side 0 keeps. -/
theorem turnF_keeps {t t1 : Tp} {bs : List Int} {swap : Bool} (h : turnF t 0 bs swap = (t1, true)) (h0 : -1 ≤ t.fuse) (h1 : t.fuse ≤ 9223372036854775807) :
    t1.s1.b.length = t.s1.b.length ∧ -1 ≤ t1.fuse ∧ t1.fuse ≤ 9223372036854775807 := by
  unfold turnF at h
  split at h
  · simp at h
    subst h
    exact ⟨rfl, h0, h1⟩
  · exact (oneF_keeps t 0 bs swap t1 true h rfl h0 h1).2
def RelW (t : Tp) (bs : List Int) (swap : Bool) (k : Nat) (tt : Tp) : Prop :=
  (k = 0 ∧ t = tt) ∨ (k = 1 ∧ turnF t 0 bs swap = (tt, true)) ∨ (k = 2 ∧ ∃ t1, turnF t 0 bs swap = (t1, true) ∧ turnF t1 1 bs swap = (tt, true))
def WriteToR (g : Nat) (r : Tp × Int) (w : World) (base : Nat) (ok : Nat → Prop) (e : Ending) (w' : World) : Prop :=
  e = .returned (.int .i64 r.2) ∧ TapeR w' base (fun k => ok k ∨ w.heap.size ≤ k) g r.1 ∧ Ch w w' (fun k => k = g)
set_option maxHeartbeats 4000000 in
theorem rwrite_calls (g : Nat) (t : Tp) (A : Option Addr) (m c : Nat) (bs : List Int) (swap : Bool) (w : World) (base : Nat) (ok : Nat → Prop)
    (ht : TapeR w base ok g t) (hA : ∀ w', Ch w w' (fun k => k = g) → B8.C w' A m bs) (hs1 : t.s0.b.length ≤ 1000000) (hs2 : t.s1.b.length ≤ 1000000) (hs5 : -1 ≤ t.fuse) (hs6 : t.fuse ≤ 9223372036854775807) (hl : bs.length ≤ 1000000) (hb : base ≤ w.heap.size) :
    Calls Try.prog 7 #[.pointer (some ⟨g, 0, none⟩), .slice A m c, .bool swap] w (WriteToR g (writeF t bs swap) w base ok) := by
  obtain rfl : bs.length = m := (hA w (Ch.refl _ _)).1
  have HT := Aside0.mk ht
  obtain ⟨v, hg, hr⟩ := ht
  have c4 := blk_cell hg 4
  have c9 := blk_cell hg 9
  have c11 := blk_cell hg 11
  simp [rcells] at c4 c9 c11
  have HG := Aside0.mk hg
  have HA := Aside0.mk hA
  clear hg hr hA
  rcases hd : t.down with _ | _
  case true =>
    simp [hd] at c11
    have HD := Aside0.mk hd
    clear hd
    go_enter Try.func7, Try.ntmps7
    go_wp2_with fail
    go_ret
    rw [show writeF t bs swap = (t, 9) by simp [writeF, HD.out]]
    exact ⟨rfl, HT.out.mono (fun _ h => .inl h), Ch.refl _ _⟩
  simp [hd] at c11
  have HD := Aside0.mk hd
  clear hd
  by_cases hll : t.s0.lost = true ∧ t.s1.lost = true
  case pos =>
    obtain ⟨h0, h1⟩ := hll
    simp [h0] at c4
    simp [h1] at c9
    have H0 := Aside0.mk h0
    have H1 := Aside0.mk h1
    clear h0 h1
    go_enter Try.func7, Try.ntmps7
    go_wp2_with fail
    go_ret
    rw [show writeF t bs swap = (t, 8) by simp [writeF, HD.out, H0.out, H1.out]]
    exact ⟨rfl, HT.out.mono (fun _ h => .inl h), Ch.refl _ _⟩
  have HLL : Aside0 ((t.s0.lost && t.s1.lost) = false) := ⟨by revert hll; cases t.s0.lost <;> cases t.s1.lost <;> simp⟩
  have key : (t.s0.lost = true ∧ t.s1.lost = false) ∨ t.s0.lost = false := by
    revert hll
    cases t.s0.lost <;> cases t.s1.lost <;> simp
  clear hll
  rcases key with ⟨h0, h1⟩ | h0
  all_goals
    simp [h0] at c4
    first | simp [h1] at c9 | skip
    clear h0
    try clear h1
    go_enter Try.func7, Try.ntmps7
    go_wp2_with fail
    go_loopw [7] (fun v w' => ∃ (k : Nat) (tt : Tp), v = .int .i64 k ∧ Aside0 (RelW t bs swap k tt) ∧ Aside0 (TapeR w' base (fun j => ok j ∨ w.heap.size ≤ j) g tt) ∧ Aside0 (Ch w w' (fun j => j = g))) (fun v _ => 2 - (intOf v).toNat)
    case atStart => exact ⟨0, t, rfl, ⟨.inl ⟨rfl, rfl⟩⟩, ⟨HT.out.mono (fun _ h => .inl h)⟩, ⟨Ch.refl _ _⟩⟩
    case round =>
      clear c4 c9 c11
      obtain ⟨k, tt, rfl, HK, HM, HC⟩ := hrel
      obtain ⟨v, hg, hr⟩ := HM.out
      rcases HK.out with ⟨rfl, rfl⟩ | ⟨rfl, hq⟩ | ⟨rfl, t1, hq1, hq2⟩
      · have HG := Aside0.mk hg
        have HR := Aside0.mk hr
        clear hr
        obtain ⟨vb0, vl0, vb1, vl1⟩ := v
        have hrb : B8.R 5 wr base (fun j => ok j ∨ w.heap.size ≤ j) vb0 t.s0.b := HR.out.b0
        obtain ⟨Ab, cb, hbb, hcb, hCb⟩ := R_open hrb
        subst hbb
        have CKb := Aside0.mk (fun w' (h : Ch wr w' (fun j => j = g)) => C_of_row hrb HG.out (by decide) h)
        have hfr : ∀ i, wr.frozen? ⟨g, i, none⟩ = false := fun i => blk_frozen HG.out i
        have HCb := Aside0.mk hCb
        have hgl := blk_lt HG.out
        have c0 := blk_cell hg 0
        have c1 := blk_cell hg 1
        have c2 := blk_cell hg 2
        have c3 := blk_cell hg 3
        have c4 := blk_cell hg 4
        have c10 := blk_cell hg 10
        have c11 := blk_cell hg 11
        simp [rcells] at c0 c1 c2 c3 c4 c10 c11
        clear hg hCb hrb
        rcases hlo : t.s0.lost with _ | _
        case true =>
          simp [hlo] at c4
          have ET : Aside0 (turnF t 0 bs swap = (t, true)) := ⟨by simp [turnF, Tp.side, hlo]⟩
          clear hlo
          go_wp2_with fail
          go_roundw
          case rel => exact ⟨1, _, by go_num, ⟨.inr (.inl ⟨rfl, ET.out⟩)⟩, HM, HC⟩
          case measure => simp [intOf]
        simp [hlo] at c4
        have HLO := Aside0.mk hlo
        clear hlo
        by_cases hz : t.fuse = 0
        case pos =>
          have hz1 : (t.fuse == 0) = true := beq_iff_eq.2 hz
          have ET : Aside0 (turnF t 0 bs swap = ({ t with s0 := { t.s0 with l := bs, swap := swap, wet := true }, down := true }, false)) := ⟨by simp [turnF, oneF, Tp.put, Tp.side, HLO.out, hz]⟩
          clear hz
          go_wp2_with ((with_reducible refine gate_builtin (b := .append) (xs := #[.tmp 50, .tmp 51]) rfl ?_); at_builtin; go_must (refine ap8 wr.heap.size rfl (.tmp 50) (.tmp 51) rfl (.slice (some ⟨wr.heap.size, 0, none⟩) 0 0) [] bs A bs.length c (fun _ => True) rfl rfl ?aO ?aR ?aF ?aS ?aL ?_; (case aO => exact R_empty B8 5 wr wr.heap.size (fun _ => True) (Nat.le_refl _) trivial); (case aR => exact HA.out _ (HC.out.alloc _)); (case aF => exact fun _ _ => trivial); (case aS => simp); (case aL => exact (show ([] : List Int).length + _ ≤ _ by rw [List.length_nil]; omega)); intro v1 w1 ho hg hat; obtain ⟨A1, c1_, rfl⟩ := Kd.R_slice ho; have H1 := Aside0.mk ho; have C1 := Aside0.mk (((Ch.refl wr (fun j => j = g)).alloc _).then_ hg (fun k hk => .inr (by simp [Value.ownBlock] at hk; omega))); have G1 := Aside0.mk (hg.blk (blk_alloc HG.out _) (fun hk => by have := blk_lt HG.out; simp [Value.ownBlock] at hk; omega)); have d1 := blk_cell G1.out 1; have d2 := blk_cell G1.out 2; have d3 := blk_cell G1.out 3; have d11 := blk_cell G1.out 11; have hf1 : ∀ i, w1.frozen? ⟨g, i, none⟩ = false := (fun i => blk_frozen G1.out i); simp [rcells] at d1 d2 d3 d11; clear ho hg hat))
          go_ret
          have CC := ((((Ch.refl w1 (fun k => k = g)).setCell (p := ⟨g, 11, none⟩) (.inl rfl) (.bool true)).setCell (p := ⟨g, 2, none⟩) (.inl rfl) (.bool true)).setCell (p := ⟨g, 3, none⟩) (.inl rfl) (.bool swap)).setCell (p := ⟨g, 1, none⟩) (.inl rfl) (.slice A1 bs.length c1_)
          have C := C1.out.then_ CC (fun _ h => .inl h)
          have R := HR.out.keep HG.out (by decide) C
          have ho1 : B8.R 5 w1 wr.heap.size (fun _ => True) (.slice A1 bs.length c1_) bs := H1.out
          have N1 := new_row' (ok := ok) (row_keep ho1 G1.out (by decide) CC) hb HC.out.size
          rw [writeF_0 HD.out HLL.out ET.out]
          exact ⟨rfl, ⟨⟨.slice Ab t.s0.b.length cb, .slice A1 bs.length c1_, vb1, vl1⟩, blk_set (blk_set (blk_set (blk_set G1.out 11 _) 2 _) 3 _) 1 _, ⟨R.b0, N1, R.b1, R.l1⟩⟩, HC.out.then_ C (fun _ h => .inl h)⟩
        have hz1 : (t.fuse == 0) = false := beq_eq_false_iff_ne.2 hz
        have HZ := Aside0.mk hz
        clear hz
        by_cases hp : t.fuse > 0
        · have hp1 : decide (0 < t.fuse) = true := decide_eq_true hp
          have HP := Aside0.mk hp
          have C0 := Aside0.mk ((Ch.refl wr (fun j => j = g)).setCell (p := ⟨g, 10, none⟩) (.inl rfl) (.int .i64 (t.fuse - 1)))
          have G0 : Aside0 ((wr.setCell ⟨g, 10, none⟩ (.int .i64 (t.fuse - 1))).heap[g]? = some (.cells (rcells _ { t with fuse := t.fuse - 1 }) 32 (0, 0))) := ⟨blk_set HG.out 10 _⟩
          cases swap
          · have ET : Aside0 (turnF t 0 bs false = ({ t with s0 := { t.s0 with b := t.s0.b ++ bs }, fuse := t.fuse - 1 }, true)) := ⟨by simp [turnF, oneF, Tp.put, Tp.side, HLO.out, HZ.out, HP.out]⟩
            go_wp2_with (first | ((with_reducible refine gate_builtin (b := .append) (xs := #[.tmp 81, .tmp 85]) rfl ?_); at_builtin; go_must (refine ap8 wr.heap.size rfl (.tmp 81) (.tmp 85) rfl (.slice (some ⟨wr.heap.size, 0, none⟩) 0 0) [] t.s0.b Ab t.s0.b.length cb (fun _ => True) rfl rfl ?aO ?aR ?aF ?aS ?aL ?_; (case aO => exact (by simpa using R_empty B8 5 (wr.setCell ⟨g, 10, none⟩ (.int .i64 (t.fuse - 1))) wr.heap.size (fun _ => True) (by simp) trivial)); (case aR => exact Kd.C_below (CKb.out _ C0.out) (below_alloc (Below.refl _ _) _)); (case aF => exact fun _ _ => trivial); (case aS => first | (simp; done) | (simp; omega)); (case aL => exact (show ([] : List Int).length + _ ≤ _ by rw [List.length_nil]; omega)); intro v1 w1 ho hg hat; obtain ⟨A1, c1_, rfl⟩ := Kd.R_slice ho; have H1 := Aside0.mk ho; have C1 := Aside0.mk ((C0.out.alloc _).then_ hg (fun k hk => .inr (by simp [Value.ownBlock] at hk; omega))); have G1 := Aside0.mk (hg.blk (blk_alloc G0.out _) (fun hk => by have := blk_lt HG.out; simp [Value.ownBlock] at hk; omega)); clear ho hg hat)) | ((with_reducible refine gate_builtin (b := .append) (xs := #[.tmp 86, .tmp 87]) rfl ?_); at_builtin; go_must (refine ap8 wr.heap.size rfl (.tmp 86) (.tmp 87) rfl (.slice A1 ([] ++ t.s0.b).length c1_) ([] ++ t.s0.b) bs A bs.length c (fun _ => True) rfl rfl ?bO ?bR ?bF ?bS ?bL ?_; (case bO => exact H1.out); (case bR => exact HA.out _ (HC.out.then_ C1.out (fun _ h => .inl h))); (case bF => exact fun _ _ => trivial); (case bS => exact C1.out.size); (case bL => exact (by rw [List.nil_append]; omega)); intro v2 w2 ho hg hat; obtain ⟨A2, c2_, rfl⟩ := Kd.R_slice ho; have H2 := Aside0.mk ho; have C2 := Aside0.mk (C1.out.then_ hg (fun k hk => .inr (Kd.R_base H1.out k hk))); have G2 := Aside0.mk (hg.blk G1.out (new_ne H1.out (blk_lt HG.out))); have d0 := blk_cell G2.out 0; have hf1 : ∀ i, w2.frozen? ⟨g, i, none⟩ = false := (fun i => blk_frozen G2.out i); simp [rcells] at d0; clear ho hg hat)))
            have CC := (Ch.refl w2 (fun k => k = g)).setCell (p := ⟨g, 0, none⟩) (.inl rfl) (.slice A2 (t.s0.b.length + bs.length) c2_)
            have C := C2.out.then_ CC (fun _ h => .inl h)
            have R := HR.out.keep HG.out (by decide) C
            have ho1 : B8.R 5 w2 wr.heap.size (fun _ => True) (.slice A2 (t.s0.b.length + bs.length) c2_) (t.s0.b ++ bs) := by simpa using H2.out
            have N1 := new_row' (ok := ok) (row_keep ho1 G2.out (by decide) CC) hb HC.out.size
            have TM : TapeR (w2.setCell ⟨g, 0, none⟩ (.slice A2 (t.s0.b.length + bs.length) c2_)) base (fun j => ok j ∨ w.heap.size ≤ j) g { t with s0 := { t.s0 with b := t.s0.b ++ bs }, fuse := t.fuse - 1 } := ⟨⟨(.slice A2 (t.s0.b.length + bs.length) c2_), vl0, vb1, vl1⟩, blk_set G2.out 0 _, ⟨N1, R.l0, R.b1, R.l1⟩⟩
            have TM' := Aside0.mk TM
            have CF := Aside0.mk (HC.out.then_ C (fun _ h => .inl h))
            clear TM CC C R ho1 N1
            go_roundw
            case rel => exact ⟨1, _, by go_num, ⟨.inr (.inl ⟨rfl, ET.out⟩)⟩, TM', CF⟩
            case measure => simp [intOf]
          · have ET : Aside0 (turnF t 0 bs true = ({ t with s0 := { t.s0 with b := bs }, fuse := t.fuse - 1 }, true)) := ⟨by simp [turnF, oneF, Tp.put, Tp.side, HLO.out, HZ.out, HP.out]⟩
            go_wp2_with ((with_reducible refine gate_builtin (b := .append) (xs := #[.tmp 75, .tmp 76]) rfl ?_); at_builtin; go_must (refine ap8 wr.heap.size rfl (.tmp 75) (.tmp 76) rfl (.slice (some ⟨wr.heap.size, 0, none⟩) 0 0) [] bs A bs.length c (fun _ => True) rfl rfl ?aO ?aR ?aF ?aS ?aL ?_; (case aO => exact (by simpa using R_empty B8 5 (wr.setCell ⟨g, 10, none⟩ (.int .i64 (t.fuse - 1))) wr.heap.size (fun _ => True) (by simp) trivial)); (case aR => exact HA.out _ ((HC.out.then_ C0.out (fun _ h => .inl h)).alloc _)); (case aF => exact fun _ _ => trivial); (case aS => first | (simp; done) | (simp; omega)); (case aL => exact (show ([] : List Int).length + _ ≤ _ by rw [List.length_nil]; omega)); intro v1 w1 ho hg hat; obtain ⟨A1, c1_, rfl⟩ := Kd.R_slice ho; have H1 := Aside0.mk ho; have C1 := Aside0.mk ((C0.out.alloc _).then_ hg (fun k hk => .inr (by simp [Value.ownBlock] at hk; omega))); have G1 := Aside0.mk (hg.blk (blk_alloc G0.out _) (fun hk => by have := blk_lt HG.out; simp [Value.ownBlock] at hk; omega)); have d0 := blk_cell G1.out 0; have hf1 : ∀ i, w1.frozen? ⟨g, i, none⟩ = false := (fun i => blk_frozen G1.out i); simp [rcells] at d0; clear ho hg hat))
            have CC := (Ch.refl w1 (fun k => k = g)).setCell (p := ⟨g, 0, none⟩) (.inl rfl) (.slice A1 bs.length c1_)
            have C := C1.out.then_ CC (fun _ h => .inl h)
            have R := HR.out.keep HG.out (by decide) C
            have ho1 : B8.R 5 w1 wr.heap.size (fun _ => True) (.slice A1 bs.length c1_) (bs) := by simpa using H1.out
            have N1 := new_row' (ok := ok) (row_keep ho1 G1.out (by decide) CC) hb HC.out.size
            have TM : TapeR (w1.setCell ⟨g, 0, none⟩ (.slice A1 bs.length c1_)) base (fun j => ok j ∨ w.heap.size ≤ j) g { t with s0 := { t.s0 with b := bs }, fuse := t.fuse - 1 } := ⟨⟨(.slice A1 bs.length c1_), vl0, vb1, vl1⟩, blk_set G1.out 0 _, ⟨N1, R.l0, R.b1, R.l1⟩⟩
            have TM' := Aside0.mk TM
            have CF := Aside0.mk (HC.out.then_ C (fun _ h => .inl h))
            clear TM CC C R ho1 N1
            go_roundw
            case rel => exact ⟨1, _, by go_num, ⟨.inr (.inl ⟨rfl, ET.out⟩)⟩, TM', CF⟩
            case measure => simp [intOf]
        · have hp1 : decide (0 < t.fuse) = false := decide_eq_false hp
          have HP := Aside0.mk hp
          have C0 := Aside0.mk (Ch.refl wr (fun j => j = g))
          have G0 : Aside0 (wr.heap[g]? = some (.cells (rcells _ { t with fuse := t.fuse }) 32 (0, 0))) := ⟨HG.out⟩
          cases swap
          · have ET : Aside0 (turnF t 0 bs false = ({ t with s0 := { t.s0 with b := t.s0.b ++ bs }, fuse := t.fuse }, true)) := ⟨by simp [turnF, oneF, Tp.put, Tp.side, HLO.out, HZ.out]; intro h; have := HP.out; omega⟩
            go_wp2_with (first | ((with_reducible refine gate_builtin (b := .append) (xs := #[.tmp 81, .tmp 85]) rfl ?_); at_builtin; go_must (refine ap8 wr.heap.size rfl (.tmp 81) (.tmp 85) rfl (.slice (some ⟨wr.heap.size, 0, none⟩) 0 0) [] t.s0.b Ab t.s0.b.length cb (fun _ => True) rfl rfl ?aO ?aR ?aF ?aS ?aL ?_; (case aO => exact (by simpa using R_empty B8 5 wr wr.heap.size (fun _ => True) (by simp) trivial)); (case aR => exact Kd.C_below (CKb.out _ C0.out) (below_alloc (Below.refl _ _) _)); (case aF => exact fun _ _ => trivial); (case aS => first | (simp; done) | (simp; omega)); (case aL => exact (show ([] : List Int).length + _ ≤ _ by rw [List.length_nil]; omega)); intro v1 w1 ho hg hat; obtain ⟨A1, c1_, rfl⟩ := Kd.R_slice ho; have H1 := Aside0.mk ho; have C1 := Aside0.mk ((C0.out.alloc _).then_ hg (fun k hk => .inr (by simp [Value.ownBlock] at hk; omega))); have G1 := Aside0.mk (hg.blk (blk_alloc G0.out _) (fun hk => by have := blk_lt HG.out; simp [Value.ownBlock] at hk; omega)); clear ho hg hat)) | ((with_reducible refine gate_builtin (b := .append) (xs := #[.tmp 86, .tmp 87]) rfl ?_); at_builtin; go_must (refine ap8 wr.heap.size rfl (.tmp 86) (.tmp 87) rfl (.slice A1 ([] ++ t.s0.b).length c1_) ([] ++ t.s0.b) bs A bs.length c (fun _ => True) rfl rfl ?bO ?bR ?bF ?bS ?bL ?_; (case bO => exact H1.out); (case bR => exact HA.out _ (HC.out.then_ C1.out (fun _ h => .inl h))); (case bF => exact fun _ _ => trivial); (case bS => exact C1.out.size); (case bL => exact (by rw [List.nil_append]; omega)); intro v2 w2 ho hg hat; obtain ⟨A2, c2_, rfl⟩ := Kd.R_slice ho; have H2 := Aside0.mk ho; have C2 := Aside0.mk (C1.out.then_ hg (fun k hk => .inr (Kd.R_base H1.out k hk))); have G2 := Aside0.mk (hg.blk G1.out (new_ne H1.out (blk_lt HG.out))); have d0 := blk_cell G2.out 0; have hf1 : ∀ i, w2.frozen? ⟨g, i, none⟩ = false := (fun i => blk_frozen G2.out i); simp [rcells] at d0; clear ho hg hat)))
            have CC := (Ch.refl w2 (fun k => k = g)).setCell (p := ⟨g, 0, none⟩) (.inl rfl) (.slice A2 (t.s0.b.length + bs.length) c2_)
            have C := C2.out.then_ CC (fun _ h => .inl h)
            have R := HR.out.keep HG.out (by decide) C
            have ho1 : B8.R 5 w2 wr.heap.size (fun _ => True) (.slice A2 (t.s0.b.length + bs.length) c2_) (t.s0.b ++ bs) := by simpa using H2.out
            have N1 := new_row' (ok := ok) (row_keep ho1 G2.out (by decide) CC) hb HC.out.size
            have TM : TapeR (w2.setCell ⟨g, 0, none⟩ (.slice A2 (t.s0.b.length + bs.length) c2_)) base (fun j => ok j ∨ w.heap.size ≤ j) g { t with s0 := { t.s0 with b := t.s0.b ++ bs }, fuse := t.fuse } := ⟨⟨(.slice A2 (t.s0.b.length + bs.length) c2_), vl0, vb1, vl1⟩, blk_set G2.out 0 _, ⟨N1, R.l0, R.b1, R.l1⟩⟩
            have TM' := Aside0.mk TM
            have CF := Aside0.mk (HC.out.then_ C (fun _ h => .inl h))
            clear TM CC C R ho1 N1
            go_roundw
            case rel => exact ⟨1, _, by go_num, ⟨.inr (.inl ⟨rfl, ET.out⟩)⟩, TM', CF⟩
            case measure => simp [intOf]
          · have ET : Aside0 (turnF t 0 bs true = ({ t with s0 := { t.s0 with b := bs }, fuse := t.fuse }, true)) := ⟨by simp [turnF, oneF, Tp.put, Tp.side, HLO.out, HZ.out]; intro h; have := HP.out; omega⟩
            go_wp2_with ((with_reducible refine gate_builtin (b := .append) (xs := #[.tmp 75, .tmp 76]) rfl ?_); at_builtin; go_must (refine ap8 wr.heap.size rfl (.tmp 75) (.tmp 76) rfl (.slice (some ⟨wr.heap.size, 0, none⟩) 0 0) [] bs A bs.length c (fun _ => True) rfl rfl ?aO ?aR ?aF ?aS ?aL ?_; (case aO => exact (by simpa using R_empty B8 5 wr wr.heap.size (fun _ => True) (by simp) trivial)); (case aR => exact HA.out _ ((HC.out.then_ C0.out (fun _ h => .inl h)).alloc _)); (case aF => exact fun _ _ => trivial); (case aS => first | (simp; done) | (simp; omega)); (case aL => exact (show ([] : List Int).length + _ ≤ _ by rw [List.length_nil]; omega)); intro v1 w1 ho hg hat; obtain ⟨A1, c1_, rfl⟩ := Kd.R_slice ho; have H1 := Aside0.mk ho; have C1 := Aside0.mk ((C0.out.alloc _).then_ hg (fun k hk => .inr (by simp [Value.ownBlock] at hk; omega))); have G1 := Aside0.mk (hg.blk (blk_alloc G0.out _) (fun hk => by have := blk_lt HG.out; simp [Value.ownBlock] at hk; omega)); have d0 := blk_cell G1.out 0; have hf1 : ∀ i, w1.frozen? ⟨g, i, none⟩ = false := (fun i => blk_frozen G1.out i); simp [rcells] at d0; clear ho hg hat))
            have CC := (Ch.refl w1 (fun k => k = g)).setCell (p := ⟨g, 0, none⟩) (.inl rfl) (.slice A1 bs.length c1_)
            have C := C1.out.then_ CC (fun _ h => .inl h)
            have R := HR.out.keep HG.out (by decide) C
            have ho1 : B8.R 5 w1 wr.heap.size (fun _ => True) (.slice A1 bs.length c1_) (bs) := by simpa using H1.out
            have N1 := new_row' (ok := ok) (row_keep ho1 G1.out (by decide) CC) hb HC.out.size
            have TM : TapeR (w1.setCell ⟨g, 0, none⟩ (.slice A1 bs.length c1_)) base (fun j => ok j ∨ w.heap.size ≤ j) g { t with s0 := { t.s0 with b := bs }, fuse := t.fuse } := ⟨⟨(.slice A1 bs.length c1_), vl0, vb1, vl1⟩, blk_set G1.out 0 _, ⟨N1, R.l0, R.b1, R.l1⟩⟩
            have TM' := Aside0.mk TM
            have CF := Aside0.mk (HC.out.then_ C (fun _ h => .inl h))
            clear TM CC C R ho1 N1
            go_roundw
            case rel => exact ⟨1, _, by go_num, ⟨.inr (.inl ⟨rfl, ET.out⟩)⟩, TM', CF⟩
            case measure => simp [intOf]
      · have HG := Aside0.mk hg
        have HR := Aside0.mk hr
        clear hr
        obtain ⟨vb0, vl0, vb1, vl1⟩ := v
        obtain ⟨hk1, hs5, hs6⟩ := turnF_keeps hq hs5 hs6
        have hs2 : tt.s1.b.length ≤ 1000000 := by omega
        have HQ := Aside0.mk hq
        clear hq hk1
        have hrb : B8.R 5 wr base (fun j => ok j ∨ w.heap.size ≤ j) vb1 tt.s1.b := HR.out.b1
        obtain ⟨Ab, cb, hbb, hcb, hCb⟩ := R_open hrb
        subst hbb
        have CKb := Aside0.mk (fun w' (h : Ch wr w' (fun j => j = g)) => C_of_row hrb HG.out (by decide) h)
        have hfr : ∀ i, wr.frozen? ⟨g, i, none⟩ = false := fun i => blk_frozen HG.out i
        have HCb := Aside0.mk hCb
        have hgl := blk_lt HG.out
        have c0 := blk_cell hg 5
        have c1 := blk_cell hg 6
        have c2 := blk_cell hg 7
        have c3 := blk_cell hg 8
        have c4 := blk_cell hg 9
        have c10 := blk_cell hg 10
        have c11 := blk_cell hg 11
        simp [rcells] at c0 c1 c2 c3 c4 c10 c11
        clear hg hCb hrb
        rcases hlo : tt.s1.lost with _ | _
        case true =>
          simp [hlo] at c4
          have ET : Aside0 (turnF tt 1 bs swap = (tt, true)) := ⟨by simp [turnF, Tp.side, hlo]⟩
          clear hlo
          go_wp2_with fail
          go_roundw
          case rel => exact ⟨2, _, by go_num, ⟨.inr (.inr ⟨rfl, _, HQ.out, ET.out⟩)⟩, HM, HC⟩
          case measure => simp [intOf]
        simp [hlo] at c4
        have HLO := Aside0.mk hlo
        clear hlo
        by_cases hz : tt.fuse = 0
        case pos =>
          have hz1 : (tt.fuse == 0) = true := beq_iff_eq.2 hz
          have ET : Aside0 (turnF tt 1 bs swap = ({ tt with s1 := { tt.s1 with l := bs, swap := swap, wet := true }, down := true }, false)) := ⟨by simp [turnF, oneF, Tp.put, Tp.side, HLO.out, hz]⟩
          clear hz
          go_wp2_with ((with_reducible refine gate_builtin (b := .append) (xs := #[.tmp 50, .tmp 51]) rfl ?_); at_builtin; go_must (refine ap8 wr.heap.size rfl (.tmp 50) (.tmp 51) rfl (.slice (some ⟨wr.heap.size, 0, none⟩) 0 0) [] bs A bs.length c (fun _ => True) rfl rfl ?aO ?aR ?aF ?aS ?aL ?_; (case aO => exact R_empty B8 5 wr wr.heap.size (fun _ => True) (Nat.le_refl _) trivial); (case aR => exact HA.out _ (HC.out.alloc _)); (case aF => exact fun _ _ => trivial); (case aS => simp); (case aL => exact (show ([] : List Int).length + _ ≤ _ by rw [List.length_nil]; omega)); intro v1 w1 ho hg hat; obtain ⟨A1, c1_, rfl⟩ := Kd.R_slice ho; have H1 := Aside0.mk ho; have C1 := Aside0.mk (((Ch.refl wr (fun j => j = g)).alloc _).then_ hg (fun k hk => .inr (by simp [Value.ownBlock] at hk; omega))); have G1 := Aside0.mk (hg.blk (blk_alloc HG.out _) (fun hk => by have := blk_lt HG.out; simp [Value.ownBlock] at hk; omega)); have d1 := blk_cell G1.out 6; have d2 := blk_cell G1.out 7; have d3 := blk_cell G1.out 8; have d11 := blk_cell G1.out 11; have hf1 : ∀ i, w1.frozen? ⟨g, i, none⟩ = false := (fun i => blk_frozen G1.out i); simp [rcells] at d1 d2 d3 d11; clear ho hg hat))
          go_ret
          have CC := ((((Ch.refl w1 (fun k => k = g)).setCell (p := ⟨g, 11, none⟩) (.inl rfl) (.bool true)).setCell (p := ⟨g, 7, none⟩) (.inl rfl) (.bool true)).setCell (p := ⟨g, 8, none⟩) (.inl rfl) (.bool swap)).setCell (p := ⟨g, 6, none⟩) (.inl rfl) (.slice A1 bs.length c1_)
          have C := C1.out.then_ CC (fun _ h => .inl h)
          have R := HR.out.keep HG.out (by decide) C
          have ho1 : B8.R 5 w1 wr.heap.size (fun _ => True) (.slice A1 bs.length c1_) bs := H1.out
          have N1 := new_row' (ok := ok) (row_keep ho1 G1.out (by decide) CC) hb HC.out.size
          rw [writeF_1 HD.out HLL.out HQ.out ET.out]
          exact ⟨rfl, ⟨⟨vb0, vl0, .slice Ab tt.s1.b.length cb, .slice A1 bs.length c1_⟩, blk_set (blk_set (blk_set (blk_set G1.out 11 _) 7 _) 8 _) 6 _, ⟨R.b0, R.l0, R.b1, N1⟩⟩, HC.out.then_ C (fun _ h => .inl h)⟩
        have hz1 : (tt.fuse == 0) = false := beq_eq_false_iff_ne.2 hz
        have HZ := Aside0.mk hz
        clear hz
        by_cases hp : tt.fuse > 0
        · have hp1 : decide (0 < tt.fuse) = true := decide_eq_true hp
          have HP := Aside0.mk hp
          have C0 := Aside0.mk ((Ch.refl wr (fun j => j = g)).setCell (p := ⟨g, 10, none⟩) (.inl rfl) (.int .i64 (tt.fuse - 1)))
          have G0 : Aside0 ((wr.setCell ⟨g, 10, none⟩ (.int .i64 (tt.fuse - 1))).heap[g]? = some (.cells (rcells _ { tt with fuse := tt.fuse - 1 }) 32 (0, 0))) := ⟨blk_set HG.out 10 _⟩
          cases swap
          · have ET : Aside0 (turnF tt 1 bs false = ({ tt with s1 := { tt.s1 with b := tt.s1.b ++ bs }, fuse := tt.fuse - 1 }, true)) := ⟨by simp [turnF, oneF, Tp.put, Tp.side, HLO.out, HZ.out, HP.out]⟩
            go_wp2_with (first | ((with_reducible refine gate_builtin (b := .append) (xs := #[.tmp 81, .tmp 85]) rfl ?_); at_builtin; go_must (refine ap8 wr.heap.size rfl (.tmp 81) (.tmp 85) rfl (.slice (some ⟨wr.heap.size, 0, none⟩) 0 0) [] tt.s1.b Ab tt.s1.b.length cb (fun _ => True) rfl rfl ?aO ?aR ?aF ?aS ?aL ?_; (case aO => exact (by simpa using R_empty B8 5 (wr.setCell ⟨g, 10, none⟩ (.int .i64 (tt.fuse - 1))) wr.heap.size (fun _ => True) (by simp) trivial)); (case aR => exact Kd.C_below (CKb.out _ C0.out) (below_alloc (Below.refl _ _) _)); (case aF => exact fun _ _ => trivial); (case aS => first | (simp; done) | (simp; omega)); (case aL => exact (show ([] : List Int).length + _ ≤ _ by rw [List.length_nil]; omega)); intro v1 w1 ho hg hat; obtain ⟨A1, c1_, rfl⟩ := Kd.R_slice ho; have H1 := Aside0.mk ho; have C1 := Aside0.mk ((C0.out.alloc _).then_ hg (fun k hk => .inr (by simp [Value.ownBlock] at hk; omega))); have G1 := Aside0.mk (hg.blk (blk_alloc G0.out _) (fun hk => by have := blk_lt HG.out; simp [Value.ownBlock] at hk; omega)); clear ho hg hat)) | ((with_reducible refine gate_builtin (b := .append) (xs := #[.tmp 86, .tmp 87]) rfl ?_); at_builtin; go_must (refine ap8 wr.heap.size rfl (.tmp 86) (.tmp 87) rfl (.slice A1 ([] ++ tt.s1.b).length c1_) ([] ++ tt.s1.b) bs A bs.length c (fun _ => True) rfl rfl ?bO ?bR ?bF ?bS ?bL ?_; (case bO => exact H1.out); (case bR => exact HA.out _ (HC.out.then_ C1.out (fun _ h => .inl h))); (case bF => exact fun _ _ => trivial); (case bS => exact C1.out.size); (case bL => exact (by rw [List.nil_append]; omega)); intro v2 w2 ho hg hat; obtain ⟨A2, c2_, rfl⟩ := Kd.R_slice ho; have H2 := Aside0.mk ho; have C2 := Aside0.mk (C1.out.then_ hg (fun k hk => .inr (Kd.R_base H1.out k hk))); have G2 := Aside0.mk (hg.blk G1.out (new_ne H1.out (blk_lt HG.out))); have d0 := blk_cell G2.out 5; have hf1 : ∀ i, w2.frozen? ⟨g, i, none⟩ = false := (fun i => blk_frozen G2.out i); simp [rcells] at d0; clear ho hg hat)))
            have CC := (Ch.refl w2 (fun k => k = g)).setCell (p := ⟨g, 5, none⟩) (.inl rfl) (.slice A2 (tt.s1.b.length + bs.length) c2_)
            have C := C2.out.then_ CC (fun _ h => .inl h)
            have R := HR.out.keep HG.out (by decide) C
            have ho1 : B8.R 5 w2 wr.heap.size (fun _ => True) (.slice A2 (tt.s1.b.length + bs.length) c2_) (tt.s1.b ++ bs) := by simpa using H2.out
            have N1 := new_row' (ok := ok) (row_keep ho1 G2.out (by decide) CC) hb HC.out.size
            have TM : TapeR (w2.setCell ⟨g, 5, none⟩ (.slice A2 (tt.s1.b.length + bs.length) c2_)) base (fun j => ok j ∨ w.heap.size ≤ j) g { tt with s1 := { tt.s1 with b := tt.s1.b ++ bs }, fuse := tt.fuse - 1 } := ⟨⟨vb0, vl0, (.slice A2 (tt.s1.b.length + bs.length) c2_), vl1⟩, blk_set G2.out 5 _, ⟨R.b0, R.l0, N1, R.l1⟩⟩
            have TM' := Aside0.mk TM
            have CF := Aside0.mk (HC.out.then_ C (fun _ h => .inl h))
            clear TM CC C R ho1 N1
            go_roundw
            case rel => exact ⟨2, _, by go_num, ⟨.inr (.inr ⟨rfl, _, HQ.out, ET.out⟩)⟩, TM', CF⟩
            case measure => simp [intOf]
          · have ET : Aside0 (turnF tt 1 bs true = ({ tt with s1 := { tt.s1 with b := bs }, fuse := tt.fuse - 1 }, true)) := ⟨by simp [turnF, oneF, Tp.put, Tp.side, HLO.out, HZ.out, HP.out]⟩
            go_wp2_with ((with_reducible refine gate_builtin (b := .append) (xs := #[.tmp 75, .tmp 76]) rfl ?_); at_builtin; go_must (refine ap8 wr.heap.size rfl (.tmp 75) (.tmp 76) rfl (.slice (some ⟨wr.heap.size, 0, none⟩) 0 0) [] bs A bs.length c (fun _ => True) rfl rfl ?aO ?aR ?aF ?aS ?aL ?_; (case aO => exact (by simpa using R_empty B8 5 (wr.setCell ⟨g, 10, none⟩ (.int .i64 (tt.fuse - 1))) wr.heap.size (fun _ => True) (by simp) trivial)); (case aR => exact HA.out _ ((HC.out.then_ C0.out (fun _ h => .inl h)).alloc _)); (case aF => exact fun _ _ => trivial); (case aS => first | (simp; done) | (simp; omega)); (case aL => exact (show ([] : List Int).length + _ ≤ _ by rw [List.length_nil]; omega)); intro v1 w1 ho hg hat; obtain ⟨A1, c1_, rfl⟩ := Kd.R_slice ho; have H1 := Aside0.mk ho; have C1 := Aside0.mk ((C0.out.alloc _).then_ hg (fun k hk => .inr (by simp [Value.ownBlock] at hk; omega))); have G1 := Aside0.mk (hg.blk (blk_alloc G0.out _) (fun hk => by have := blk_lt HG.out; simp [Value.ownBlock] at hk; omega)); have d0 := blk_cell G1.out 5; have hf1 : ∀ i, w1.frozen? ⟨g, i, none⟩ = false := (fun i => blk_frozen G1.out i); simp [rcells] at d0; clear ho hg hat))
            have CC := (Ch.refl w1 (fun k => k = g)).setCell (p := ⟨g, 5, none⟩) (.inl rfl) (.slice A1 bs.length c1_)
            have C := C1.out.then_ CC (fun _ h => .inl h)
            have R := HR.out.keep HG.out (by decide) C
            have ho1 : B8.R 5 w1 wr.heap.size (fun _ => True) (.slice A1 bs.length c1_) (bs) := by simpa using H1.out
            have N1 := new_row' (ok := ok) (row_keep ho1 G1.out (by decide) CC) hb HC.out.size
            have TM : TapeR (w1.setCell ⟨g, 5, none⟩ (.slice A1 bs.length c1_)) base (fun j => ok j ∨ w.heap.size ≤ j) g { tt with s1 := { tt.s1 with b := bs }, fuse := tt.fuse - 1 } := ⟨⟨vb0, vl0, (.slice A1 bs.length c1_), vl1⟩, blk_set G1.out 5 _, ⟨R.b0, R.l0, N1, R.l1⟩⟩
            have TM' := Aside0.mk TM
            have CF := Aside0.mk (HC.out.then_ C (fun _ h => .inl h))
            clear TM CC C R ho1 N1
            go_roundw
            case rel => exact ⟨2, _, by go_num, ⟨.inr (.inr ⟨rfl, _, HQ.out, ET.out⟩)⟩, TM', CF⟩
            case measure => simp [intOf]
        · have hp1 : decide (0 < tt.fuse) = false := decide_eq_false hp
          have HP := Aside0.mk hp
          have C0 := Aside0.mk (Ch.refl wr (fun j => j = g))
          have G0 : Aside0 (wr.heap[g]? = some (.cells (rcells _ { tt with fuse := tt.fuse }) 32 (0, 0))) := ⟨HG.out⟩
          cases swap
          · have ET : Aside0 (turnF tt 1 bs false = ({ tt with s1 := { tt.s1 with b := tt.s1.b ++ bs }, fuse := tt.fuse }, true)) := ⟨by simp [turnF, oneF, Tp.put, Tp.side, HLO.out, HZ.out]; intro h; have := HP.out; omega⟩
            go_wp2_with (first | ((with_reducible refine gate_builtin (b := .append) (xs := #[.tmp 81, .tmp 85]) rfl ?_); at_builtin; go_must (refine ap8 wr.heap.size rfl (.tmp 81) (.tmp 85) rfl (.slice (some ⟨wr.heap.size, 0, none⟩) 0 0) [] tt.s1.b Ab tt.s1.b.length cb (fun _ => True) rfl rfl ?aO ?aR ?aF ?aS ?aL ?_; (case aO => exact (by simpa using R_empty B8 5 wr wr.heap.size (fun _ => True) (by simp) trivial)); (case aR => exact Kd.C_below (CKb.out _ C0.out) (below_alloc (Below.refl _ _) _)); (case aF => exact fun _ _ => trivial); (case aS => first | (simp; done) | (simp; omega)); (case aL => exact (show ([] : List Int).length + _ ≤ _ by rw [List.length_nil]; omega)); intro v1 w1 ho hg hat; obtain ⟨A1, c1_, rfl⟩ := Kd.R_slice ho; have H1 := Aside0.mk ho; have C1 := Aside0.mk ((C0.out.alloc _).then_ hg (fun k hk => .inr (by simp [Value.ownBlock] at hk; omega))); have G1 := Aside0.mk (hg.blk (blk_alloc G0.out _) (fun hk => by have := blk_lt HG.out; simp [Value.ownBlock] at hk; omega)); clear ho hg hat)) | ((with_reducible refine gate_builtin (b := .append) (xs := #[.tmp 86, .tmp 87]) rfl ?_); at_builtin; go_must (refine ap8 wr.heap.size rfl (.tmp 86) (.tmp 87) rfl (.slice A1 ([] ++ tt.s1.b).length c1_) ([] ++ tt.s1.b) bs A bs.length c (fun _ => True) rfl rfl ?bO ?bR ?bF ?bS ?bL ?_; (case bO => exact H1.out); (case bR => exact HA.out _ (HC.out.then_ C1.out (fun _ h => .inl h))); (case bF => exact fun _ _ => trivial); (case bS => exact C1.out.size); (case bL => exact (by rw [List.nil_append]; omega)); intro v2 w2 ho hg hat; obtain ⟨A2, c2_, rfl⟩ := Kd.R_slice ho; have H2 := Aside0.mk ho; have C2 := Aside0.mk (C1.out.then_ hg (fun k hk => .inr (Kd.R_base H1.out k hk))); have G2 := Aside0.mk (hg.blk G1.out (new_ne H1.out (blk_lt HG.out))); have d0 := blk_cell G2.out 5; have hf1 : ∀ i, w2.frozen? ⟨g, i, none⟩ = false := (fun i => blk_frozen G2.out i); simp [rcells] at d0; clear ho hg hat)))
            have CC := (Ch.refl w2 (fun k => k = g)).setCell (p := ⟨g, 5, none⟩) (.inl rfl) (.slice A2 (tt.s1.b.length + bs.length) c2_)
            have C := C2.out.then_ CC (fun _ h => .inl h)
            have R := HR.out.keep HG.out (by decide) C
            have ho1 : B8.R 5 w2 wr.heap.size (fun _ => True) (.slice A2 (tt.s1.b.length + bs.length) c2_) (tt.s1.b ++ bs) := by simpa using H2.out
            have N1 := new_row' (ok := ok) (row_keep ho1 G2.out (by decide) CC) hb HC.out.size
            have TM : TapeR (w2.setCell ⟨g, 5, none⟩ (.slice A2 (tt.s1.b.length + bs.length) c2_)) base (fun j => ok j ∨ w.heap.size ≤ j) g { tt with s1 := { tt.s1 with b := tt.s1.b ++ bs }, fuse := tt.fuse } := ⟨⟨vb0, vl0, (.slice A2 (tt.s1.b.length + bs.length) c2_), vl1⟩, blk_set G2.out 5 _, ⟨R.b0, R.l0, N1, R.l1⟩⟩
            have TM' := Aside0.mk TM
            have CF := Aside0.mk (HC.out.then_ C (fun _ h => .inl h))
            clear TM CC C R ho1 N1
            go_roundw
            case rel => exact ⟨2, _, by go_num, ⟨.inr (.inr ⟨rfl, _, HQ.out, ET.out⟩)⟩, TM', CF⟩
            case measure => simp [intOf]
          · have ET : Aside0 (turnF tt 1 bs true = ({ tt with s1 := { tt.s1 with b := bs }, fuse := tt.fuse }, true)) := ⟨by simp [turnF, oneF, Tp.put, Tp.side, HLO.out, HZ.out]; intro h; have := HP.out; omega⟩
            go_wp2_with ((with_reducible refine gate_builtin (b := .append) (xs := #[.tmp 75, .tmp 76]) rfl ?_); at_builtin; go_must (refine ap8 wr.heap.size rfl (.tmp 75) (.tmp 76) rfl (.slice (some ⟨wr.heap.size, 0, none⟩) 0 0) [] bs A bs.length c (fun _ => True) rfl rfl ?aO ?aR ?aF ?aS ?aL ?_; (case aO => exact (by simpa using R_empty B8 5 wr wr.heap.size (fun _ => True) (by simp) trivial)); (case aR => exact HA.out _ ((HC.out.then_ C0.out (fun _ h => .inl h)).alloc _)); (case aF => exact fun _ _ => trivial); (case aS => first | (simp; done) | (simp; omega)); (case aL => exact (show ([] : List Int).length + _ ≤ _ by rw [List.length_nil]; omega)); intro v1 w1 ho hg hat; obtain ⟨A1, c1_, rfl⟩ := Kd.R_slice ho; have H1 := Aside0.mk ho; have C1 := Aside0.mk ((C0.out.alloc _).then_ hg (fun k hk => .inr (by simp [Value.ownBlock] at hk; omega))); have G1 := Aside0.mk (hg.blk (blk_alloc G0.out _) (fun hk => by have := blk_lt HG.out; simp [Value.ownBlock] at hk; omega)); have d0 := blk_cell G1.out 5; have hf1 : ∀ i, w1.frozen? ⟨g, i, none⟩ = false := (fun i => blk_frozen G1.out i); simp [rcells] at d0; clear ho hg hat))
            have CC := (Ch.refl w1 (fun k => k = g)).setCell (p := ⟨g, 5, none⟩) (.inl rfl) (.slice A1 bs.length c1_)
            have C := C1.out.then_ CC (fun _ h => .inl h)
            have R := HR.out.keep HG.out (by decide) C
            have ho1 : B8.R 5 w1 wr.heap.size (fun _ => True) (.slice A1 bs.length c1_) (bs) := by simpa using H1.out
            have N1 := new_row' (ok := ok) (row_keep ho1 G1.out (by decide) CC) hb HC.out.size
            have TM : TapeR (w1.setCell ⟨g, 5, none⟩ (.slice A1 bs.length c1_)) base (fun j => ok j ∨ w.heap.size ≤ j) g { tt with s1 := { tt.s1 with b := bs }, fuse := tt.fuse } := ⟨⟨vb0, vl0, (.slice A1 bs.length c1_), vl1⟩, blk_set G1.out 5 _, ⟨R.b0, R.l0, N1, R.l1⟩⟩
            have TM' := Aside0.mk TM
            have CF := Aside0.mk (HC.out.then_ C (fun _ h => .inl h))
            clear TM CC C R ho1 N1
            go_roundw
            case rel => exact ⟨2, _, by go_num, ⟨.inr (.inr ⟨rfl, _, HQ.out, ET.out⟩)⟩, TM', CF⟩
            case measure => simp [intOf]
      · have E := Aside0.mk (writeF_2 HD.out HLL.out hq1 hq2)
        clear hq1 hq2 hg hr
        go_wp2_with fail
        go_ret
        rw [E.out]
        exact ⟨rfl, HM.out, HC.out⟩
end Go.Proofs.Ytgehempmccponaa

