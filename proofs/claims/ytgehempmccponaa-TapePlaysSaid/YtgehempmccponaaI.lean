/- The reference's All. -/
import Derived.Test.YtgehempmccponaaH
set_option linter.unusedVariables false
namespace Go.Proofs.Ytgehempmccponaa
open Go.RowKit Go.Proofs.YtgehempmccponaaW.PrintWords Go.Proofs.YtgehempmccponaaW.PrintLast Go.Proofs.YtgehempmccponaaW.PrintMore
/-- A side's bytes, with what is loose of the first 'keep'. -/
def Sd.upto (s : Sd) (keep : Int) : List Int := if s.wet = false then s.b else if s.swap = false then s.b ++ s.l.take (clamp keep s.l.length) else if keep.tmod 2 = 0 then s.b else s.l
def AllTo (ys : List Int) (w : World) (base : Nat) (ok : Nat → Prop) (e : Ending) (w' : World) : Prop :=
  ∃ v', e = .returned v' ∧ B8.R 5 w' base (fun k => ok k ∨ w.heap.size ≤ k) v' ys ∧ Ch w w' (fun _ => False)
set_option maxHeartbeats 1000000 in
theorem all_calls (s : Sd) (vb vl : Value) (keep : Int) (w : World) (base : Nat) (ok : Nat → Prop) (hvb : B8.R 5 w base ok vb s.b) (hvl : B8.R 5 w base ok vl s.l) (h1 : s.b.length ≤ 1000000) (h2 : s.l.length ≤ 1000000) (hb : base ≤ w.heap.size) :
    Calls Try.prog 16 #[.agg #[vb, vl, .bool s.wet, .bool s.swap, .bool s.lost], .int .i64 keep] w (AllTo (s.upto keep) w base ok) := by
  obtain ⟨Ab, cb, rfl, hcb, hCb⟩ := R_open hvb
  obtain ⟨Al, cl, rfl, hcl, hCl⟩ := R_open hvl
  have HB := Aside0.mk hvb
  have HL := Aside0.mk hvl
  have HCB := Aside0.mk hCb
  have HCL := Aside0.mk hCl
  clear hvb hvl hCb hCl
  rcases h3 : s.wet with _ | _
  · have H3 := Aside0.mk h3
    clear h3
    go_enter Try.func16, Try.ntmps16
    go_wp2_with fail
    go_ret
    refine ⟨_, rfl, ?_, (Ch.refl _ _).alloc _⟩
    rw [show s.upto keep = s.b by simp [Sd.upto, H3.out]]
    exact Kd.R_mono (Kd.R_alloc HB.out _) (fun _ h => .inl h)
  · rcases h4 : s.swap with _ | _
    · have hn0 : ((s.l.length : Int) < 0) = False := eq_false (by omega)
      by_cases hk0 : keep < 0
      · by_cases hl0 : s.l.length = 0
        · have H3 := Aside0.mk h3
          have H4 := Aside0.mk h4
          clear h3 h4
          obtain ⟨bs, hbs⟩ : ∃ bs, bs = s.l := ⟨_, rfl⟩
          have hd0 : decide ((0 : Int) < (s.l.length : Int)) = false := decide_eq_false (by omega)
          have hd1 : decide (0 < s.l.length) = false := decide_eq_false (by omega)
          have ecl : s.l.take (clamp keep s.l.length) = s.l := by rw [hl0]; simp [clamp, hk0]; exact List.eq_nil_of_length_eq_zero hl0
          have HL0 := Aside0.mk hl0
          clear hl0
          have EQ : Aside0 (s.upto keep = s.b ++ bs) := ⟨by rw [hbs]; simp [Sd.upto, H3.out, H4.out, ecl]⟩
          have L2 : Aside0 (B8.R 5 w base ok (.slice Al s.l.length cl) bs) := ⟨by rw [hbs]; exact HL.out⟩
          have HBL : Aside0 (bs.length ≤ 1000000) := ⟨by rw [hbs]; omega⟩
          have HC2 : Aside0 (B8.C w Al s.l.length bs) := ⟨by have := Kd.R_reads' L2.out; rw [this.1]; exact this.2.2⟩
          have HLN := Aside0.mk (show s.l.length ≤ s.l.length by omega)
          clear hbs ecl
          go_enter Try.func16, Try.ntmps16
          go_wp2_with (first | ((with_reducible refine gate_builtin (b := .append) (xs := #[.tmp 30, .tmp 32]) rfl ?_); at_builtin; go_must (refine ap8 w.heap.size rfl (.tmp 30) (.tmp 32) rfl (.slice (some ⟨w.heap.size + 1, 0, none⟩) 0 0) [] s.b Ab s.b.length cb (fun _ => True) rfl rfl ?aO ?aR ?aF ?aS ?aL ?_; (case aO => have hr0 := R_empty B8 5 (w.alloc (.cells #[.slice Ab s.b.length cb, .slice Al s.l.length cl, .bool true, .bool false, .bool s.lost] 29)) w.heap.size (fun _ => True) (by first | (simp; done) | (simp; omega)) trivial; exact (by simpa using hr0)); (case aR => exact Kd.C_below HCB.out (below_alloc (below_alloc (Below.refl _ _) _) _)); (case aF => exact fun _ _ => trivial); (case aS => first | (simp; done) | (simp; omega)); (case aL => exact (show ([] : List Int).length + _ ≤ _ by rw [List.length_nil]; omega)); intro v1 w1 ho hg hat; obtain ⟨A1, c1, rfl⟩ := Kd.R_slice ho; have H1 := Aside0.mk ho; have C1 := Aside0.mk ((((Ch.refl w (fun _ => False)).alloc _).alloc _).then_ hg (fun k hk => .inr (by simp [Value.ownBlock] at hk; omega))); clear ho hg hat)) | ((with_reducible refine gate_builtin (b := .append) (xs := #[.tmp 33, .tmp 34]) rfl ?_); at_builtin; go_must (refine ap8 w.heap.size rfl (.tmp 33) (.tmp 34) rfl (.slice A1 ([] ++ s.b).length c1) ([] ++ s.b) bs Al _ cl (fun _ => True) rfl rfl ?bO ?bR ?bF ?bS ?bL ?_; (case bO => exact H1.out); (case bR => exact Kd.C_below HC2.out (C1.out.quiet (fun _ h => h.elim))); (case bF => exact fun _ _ => trivial); (case bS => exact C1.out.size); (case bL => have := HLN.out; rw [List.nil_append]; omega); intro v2 w2 ho hg hat; obtain ⟨A2, c2, rfl⟩ := Kd.R_slice ho; have H2 := Aside0.mk ho; have C2 := Aside0.mk (C1.out.then_ hg (fun k hk => .inr (by have := Kd.R_base H1.out k hk; omega))); clear ho hg hat)))
          go_ret
          refine ⟨_, rfl, ?_, C2.out⟩
          rw [EQ.out]
          have e2 := Kd.R_lower (Kd.R_mono (ok' := fun k => ok k ∨ w.heap.size ≤ k) (Kd.R_bound H2.out) (fun k hk => .inr hk.2.1)) hb
          simpa using e2
        · have H3 := Aside0.mk h3
          have H4 := Aside0.mk h4
          clear h3 h4
          obtain ⟨bs, hbs⟩ : ∃ bs, bs = s.l.take 0 := ⟨_, rfl⟩
          have hd0 : decide ((0 : Int) < (s.l.length : Int)) = true := decide_eq_true (by omega)
          have hd1 : decide (0 < s.l.length) = true := decide_eq_true (by omega)
          have ecl : s.l.take (clamp keep s.l.length) = s.l.take 0 := by simp [clamp, hk0]
          have hsl := cut_to (P := Try.prog) 27 5 .i64 Try.underlying27 hi5.choose_spec Al s.l.length cl 0 (by omega) (by omega) hcl
          try simp only [Int.toNat_natCast] at hsl
          try simp only [Int.toNat_zero] at hsl
          have EQ : Aside0 (s.upto keep = s.b ++ bs) := ⟨by rw [hbs]; simp [Sd.upto, H3.out, H4.out, ecl]⟩
          have L2 : Aside0 (B8.R 5 w base ok (.slice Al 0 cl) bs) := ⟨by rw [hbs]; exact Kd.R_take HL.out (by omega)⟩
          have HBL : Aside0 (bs.length ≤ 1000000) := ⟨by rw [hbs, List.length_take]; omega⟩
          have HC2 : Aside0 (B8.C w Al 0 bs) := ⟨by have := Kd.R_reads' L2.out; rw [this.1]; exact this.2.2⟩
          have HLN := Aside0.mk (show 0 ≤ s.l.length by omega)
          clear hbs ecl
          go_enter Try.func16, Try.ntmps16
          go_wp2_with (first | ((with_reducible refine gate_builtin (b := .append) (xs := #[.tmp 30, .tmp 32]) rfl ?_); at_builtin; go_must (refine ap8 w.heap.size rfl (.tmp 30) (.tmp 32) rfl (.slice (some ⟨w.heap.size + 1, 0, none⟩) 0 0) [] s.b Ab s.b.length cb (fun _ => True) rfl rfl ?aO ?aR ?aF ?aS ?aL ?_; (case aO => have hr0 := R_empty B8 5 (w.alloc (.cells #[.slice Ab s.b.length cb, .slice Al s.l.length cl, .bool true, .bool false, .bool s.lost] 29)) w.heap.size (fun _ => True) (by first | (simp; done) | (simp; omega)) trivial; exact (by simpa using hr0)); (case aR => exact Kd.C_below HCB.out (below_alloc (below_alloc (Below.refl _ _) _) _)); (case aF => exact fun _ _ => trivial); (case aS => first | (simp; done) | (simp; omega)); (case aL => exact (show ([] : List Int).length + _ ≤ _ by rw [List.length_nil]; omega)); intro v1 w1 ho hg hat; obtain ⟨A1, c1, rfl⟩ := Kd.R_slice ho; have H1 := Aside0.mk ho; have C1 := Aside0.mk ((((Ch.refl w (fun _ => False)).alloc _).alloc _).then_ hg (fun k hk => .inr (by simp [Value.ownBlock] at hk; omega))); clear ho hg hat)) | ((with_reducible refine gate_builtin (b := .append) (xs := #[.tmp 33, .tmp 34]) rfl ?_); at_builtin; go_must (refine ap8 w.heap.size rfl (.tmp 33) (.tmp 34) rfl (.slice A1 ([] ++ s.b).length c1) ([] ++ s.b) bs Al _ cl (fun _ => True) rfl rfl ?bO ?bR ?bF ?bS ?bL ?_; (case bO => exact H1.out); (case bR => exact Kd.C_below HC2.out (C1.out.quiet (fun _ h => h.elim))); (case bF => exact fun _ _ => trivial); (case bS => exact C1.out.size); (case bL => have := HLN.out; rw [List.nil_append]; omega); intro v2 w2 ho hg hat; obtain ⟨A2, c2, rfl⟩ := Kd.R_slice ho; have H2 := Aside0.mk ho; have C2 := Aside0.mk (C1.out.then_ hg (fun k hk => .inr (by have := Kd.R_base H1.out k hk; omega))); clear ho hg hat)))
          go_ret
          refine ⟨_, rfl, ?_, C2.out⟩
          rw [EQ.out]
          have e2 := Kd.R_lower (Kd.R_mono (ok' := fun k => ok k ∨ w.heap.size ≤ k) (Kd.R_bound H2.out) (fun k hk => .inr hk.2.1)) hb
          simpa using e2
      · by_cases hk1 : keep < (s.l.length : Int)
        · have H3 := Aside0.mk h3
          have H4 := Aside0.mk h4
          clear h3 h4
          obtain ⟨bs, hbs⟩ : ∃ bs, bs = s.l.take keep.toNat := ⟨_, rfl⟩
          have hk4 : (keep < 0) = False := eq_false hk0
          have ecl : s.l.take (clamp keep s.l.length) = s.l.take keep.toNat := by simp [clamp, hk0, show keep ≤ (s.l.length : Int) by omega]
          have hsl := cut_to (P := Try.prog) 27 5 .i64 Try.underlying27 hi5.choose_spec Al s.l.length cl keep (by omega) (by omega) hcl
          try simp only [Int.toNat_natCast] at hsl
          try simp only [Int.toNat_zero] at hsl
          have EQ : Aside0 (s.upto keep = s.b ++ bs) := ⟨by rw [hbs]; simp [Sd.upto, H3.out, H4.out, ecl]⟩
          have L2 : Aside0 (B8.R 5 w base ok (.slice Al keep.toNat cl) bs) := ⟨by rw [hbs]; exact Kd.R_take HL.out (by omega)⟩
          have HBL : Aside0 (bs.length ≤ 1000000) := ⟨by rw [hbs, List.length_take]; omega⟩
          have HC2 : Aside0 (B8.C w Al keep.toNat bs) := ⟨by have := Kd.R_reads' L2.out; rw [this.1]; exact this.2.2⟩
          have HLN := Aside0.mk (show keep.toNat ≤ s.l.length by omega)
          clear hbs ecl
          go_enter Try.func16, Try.ntmps16
          go_wp2_with (first | ((with_reducible refine gate_builtin (b := .append) (xs := #[.tmp 30, .tmp 32]) rfl ?_); at_builtin; go_must (refine ap8 w.heap.size rfl (.tmp 30) (.tmp 32) rfl (.slice (some ⟨w.heap.size + 1, 0, none⟩) 0 0) [] s.b Ab s.b.length cb (fun _ => True) rfl rfl ?aO ?aR ?aF ?aS ?aL ?_; (case aO => have hr0 := R_empty B8 5 (w.alloc (.cells #[.slice Ab s.b.length cb, .slice Al s.l.length cl, .bool true, .bool false, .bool s.lost] 29)) w.heap.size (fun _ => True) (by first | (simp; done) | (simp; omega)) trivial; exact (by simpa using hr0)); (case aR => exact Kd.C_below HCB.out (below_alloc (below_alloc (Below.refl _ _) _) _)); (case aF => exact fun _ _ => trivial); (case aS => first | (simp; done) | (simp; omega)); (case aL => exact (show ([] : List Int).length + _ ≤ _ by rw [List.length_nil]; omega)); intro v1 w1 ho hg hat; obtain ⟨A1, c1, rfl⟩ := Kd.R_slice ho; have H1 := Aside0.mk ho; have C1 := Aside0.mk ((((Ch.refl w (fun _ => False)).alloc _).alloc _).then_ hg (fun k hk => .inr (by simp [Value.ownBlock] at hk; omega))); clear ho hg hat)) | ((with_reducible refine gate_builtin (b := .append) (xs := #[.tmp 33, .tmp 34]) rfl ?_); at_builtin; go_must (refine ap8 w.heap.size rfl (.tmp 33) (.tmp 34) rfl (.slice A1 ([] ++ s.b).length c1) ([] ++ s.b) bs Al _ cl (fun _ => True) rfl rfl ?bO ?bR ?bF ?bS ?bL ?_; (case bO => exact H1.out); (case bR => exact Kd.C_below HC2.out (C1.out.quiet (fun _ h => h.elim))); (case bF => exact fun _ _ => trivial); (case bS => exact C1.out.size); (case bL => have := HLN.out; rw [List.nil_append]; omega); intro v2 w2 ho hg hat; obtain ⟨A2, c2, rfl⟩ := Kd.R_slice ho; have H2 := Aside0.mk ho; have C2 := Aside0.mk (C1.out.then_ hg (fun k hk => .inr (by have := Kd.R_base H1.out k hk; omega))); clear ho hg hat)))
          go_ret
          refine ⟨_, rfl, ?_, C2.out⟩
          rw [EQ.out]
          have e2 := Kd.R_lower (Kd.R_mono (ok' := fun k => ok k ∨ w.heap.size ≤ k) (Kd.R_bound H2.out) (fun k hk => .inr hk.2.1)) hb
          simpa using e2
        · have H3 := Aside0.mk h3
          have H4 := Aside0.mk h4
          clear h3 h4
          obtain ⟨bs, hbs⟩ : ∃ bs, bs = s.l := ⟨_, rfl⟩
          have hk4 : (keep < 0) = False := eq_false hk0
          have hk5 : (keep < (s.l.length : Int)) = False := eq_false hk1
          have ecl : s.l.take (clamp keep s.l.length) = s.l := by unfold clamp; split; omega; split; (have : keep.toNat = s.l.length := by omega); rw [this, List.take_length]; rw [List.take_length]
          have EQ : Aside0 (s.upto keep = s.b ++ bs) := ⟨by rw [hbs]; simp [Sd.upto, H3.out, H4.out, ecl]⟩
          have L2 : Aside0 (B8.R 5 w base ok (.slice Al s.l.length cl) bs) := ⟨by rw [hbs]; exact HL.out⟩
          have HBL : Aside0 (bs.length ≤ 1000000) := ⟨by rw [hbs]; omega⟩
          have HC2 : Aside0 (B8.C w Al s.l.length bs) := ⟨by have := Kd.R_reads' L2.out; rw [this.1]; exact this.2.2⟩
          have HLN := Aside0.mk (show s.l.length ≤ s.l.length by omega)
          clear hbs ecl
          go_enter Try.func16, Try.ntmps16
          go_wp2_with (first | ((with_reducible refine gate_builtin (b := .append) (xs := #[.tmp 30, .tmp 32]) rfl ?_); at_builtin; go_must (refine ap8 w.heap.size rfl (.tmp 30) (.tmp 32) rfl (.slice (some ⟨w.heap.size + 1, 0, none⟩) 0 0) [] s.b Ab s.b.length cb (fun _ => True) rfl rfl ?aO ?aR ?aF ?aS ?aL ?_; (case aO => have hr0 := R_empty B8 5 (w.alloc (.cells #[.slice Ab s.b.length cb, .slice Al s.l.length cl, .bool true, .bool false, .bool s.lost] 29)) w.heap.size (fun _ => True) (by first | (simp; done) | (simp; omega)) trivial; exact (by simpa using hr0)); (case aR => exact Kd.C_below HCB.out (below_alloc (below_alloc (Below.refl _ _) _) _)); (case aF => exact fun _ _ => trivial); (case aS => first | (simp; done) | (simp; omega)); (case aL => exact (show ([] : List Int).length + _ ≤ _ by rw [List.length_nil]; omega)); intro v1 w1 ho hg hat; obtain ⟨A1, c1, rfl⟩ := Kd.R_slice ho; have H1 := Aside0.mk ho; have C1 := Aside0.mk ((((Ch.refl w (fun _ => False)).alloc _).alloc _).then_ hg (fun k hk => .inr (by simp [Value.ownBlock] at hk; omega))); clear ho hg hat)) | ((with_reducible refine gate_builtin (b := .append) (xs := #[.tmp 33, .tmp 34]) rfl ?_); at_builtin; go_must (refine ap8 w.heap.size rfl (.tmp 33) (.tmp 34) rfl (.slice A1 ([] ++ s.b).length c1) ([] ++ s.b) bs Al _ cl (fun _ => True) rfl rfl ?bO ?bR ?bF ?bS ?bL ?_; (case bO => exact H1.out); (case bR => exact Kd.C_below HC2.out (C1.out.quiet (fun _ h => h.elim))); (case bF => exact fun _ _ => trivial); (case bS => exact C1.out.size); (case bL => have := HLN.out; rw [List.nil_append]; omega); intro v2 w2 ho hg hat; obtain ⟨A2, c2, rfl⟩ := Kd.R_slice ho; have H2 := Aside0.mk ho; have C2 := Aside0.mk (C1.out.then_ hg (fun k hk => .inr (by have := Kd.R_base H1.out k hk; omega))); clear ho hg hat)))
          go_ret
          refine ⟨_, rfl, ?_, C2.out⟩
          rw [EQ.out]
          have e2 := Kd.R_lower (Kd.R_mono (ok' := fun k => ok k ∨ w.heap.size ≤ k) (Kd.R_bound H2.out) (fun k hk => .inr hk.2.1)) hb
          simpa using e2
    · by_cases hk : keep.tmod 2 = 0
      · have hk1 : (keep.tmod 2 == 0) = true := by simpa using hk
        have H3 := Aside0.mk h3
        have H4 := Aside0.mk h4
        have HK := Aside0.mk hk
        clear h3 h4 hk
        go_enter Try.func16, Try.ntmps16
        go_wp2_with fail
        go_ret
        refine ⟨_, rfl, ?_, (Ch.refl _ _).alloc _⟩
        rw [show s.upto keep = s.b by simp [Sd.upto, H3.out, H4.out, HK.out]]
        exact Kd.R_mono (Kd.R_alloc HB.out _) (fun _ h => .inl h)
      · have hk1 : (keep.tmod 2 == 0) = false := by simpa using hk
        have H3 := Aside0.mk h3
        have H4 := Aside0.mk h4
        have HK := Aside0.mk hk
        clear h3 h4 hk
        go_enter Try.func16, Try.ntmps16
        go_wp2_with fail
        go_ret
        refine ⟨_, rfl, ?_, (Ch.refl _ _).alloc _⟩
        rw [show s.upto keep = s.l by simp [Sd.upto, H3.out, H4.out, HK.out]]
        exact Kd.R_mono (Kd.R_alloc HL.out _) (fun _ h => .inl h)
end Go.Proofs.Ytgehempmccponaa
