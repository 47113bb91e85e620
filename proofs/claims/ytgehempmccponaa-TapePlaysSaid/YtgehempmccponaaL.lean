/- answers. -/
import Derived.Test.YtgehempmccponaaK
import Derived.Lib.SlBytesConst
set_option linter.unusedVariables false
namespace Go.Proofs.Ytgehempmccponaa
open Go.RowKit Go.Proofs.YtgehempmccponaaW.PrintWords Go.Proofs.YtgehempmccponaaW.PrintLast Go.Proofs.YtgehempmccponaaW.PrintMore
theorem R_lit8 (W : World) (base : Nat) (ok : Nat → Prop) (xs : List Int) (hb : base ≤ W.heap.size) (hok : ok W.heap.size) (hm : xs.length ≤ 1000000) :
    B8.R 5 (W.alloc (.cells (nums .u8 xs).toArray 5)) base ok (.slice (some ⟨W.heap.size, 0, none⟩) xs.length xs.length) xs := by
  refine Kd.R_of_own (own_lit W base 5 .u8 xs hb (by omega)) (fun k hk => ?_)
  have : W.heap.size = k := by simpa [Value.ownBlock] using hk
  exact this ▸ hok
def abT : Tp := ⟨⟨[97, 98], [], false, false, false⟩, ⟨[97, 98], [], false, false, false⟩, -1, false⟩
theorem write_ab : writeF newT [97, 98] false = (abT, 0) := by
  simp [writeF, turnF, oneF, newT, abT, Tp.side, Tp.put]
theorem str_ab : strOfNums [97, 98] = ⟨#[97, 98]⟩ := by decide
theorem conv_ab {w : World} {A : Option Addr} {n c : Nat} (h : B8.C w A n [97, 98]) : (convert 27 9 (.slice A n c)).run Try.prog w = .ok (.string ⟨#[97, 98]⟩) w := by
  rw [← str_ab]
  exact Kd.C_string Try.underlying27 Try.underlying5 Try.underlying9 h
theorem read_ab (g n : Nat) (w : World) (base : Nat) (ok : Nat → Prop) (ht : TapeM w base ok g abT) (hn : n < 2) :
    Calls Try.prog 14 #[.pointer (some ⟨g, 0, none⟩), .int .i64 n] w fun e w' => ∃ A c, e = .returned (.tuple #[.slice A 2 c, .int .i64 0]) ∧ B8.C w' A 2 [97, 98] ∧ Ch w w' (fun _ => False) := by
  refine (read_calls g n abT w base ok ht hn ?_ ?_).mono ?_
  · rcases n with _ | _ | n <;> simp [abT, Tp.side]
  · rcases n with _ | _ | n <;> simp [abT, Tp.side]
  · rintro e w' ⟨v, he, hr, hc⟩
    have h1 : (abT.side n).lost = false := by rcases n with _ | _ | n <;> simp [abT, Tp.side]
    have h2 : (abT.side n).all = [97, 98] := by rcases n with _ | _ | n <;> simp [abT, Tp.side, Sd.all]
    rw [h1] at he hr
    rw [h2] at hr
    obtain ⟨A, c, rfl, _, hC⟩ := R_open (show B8.R 5 w' w.heap.size (fun _ => True) v [97, 98] from hr)
    exact ⟨A, c, he, hC, hc⟩
theorem C_of_blk {w : World} {b t : Nat} {fr : Nat × Nat} {xs : List Int} (h : w.heap[b]? = some (.cells (nums .u8 xs).toArray t fr)) (hl : xs.length ≤ 1000000) : B8.C w (some ⟨b, 0, none⟩) xs.length xs := by
  refine ⟨rfl, by omega, fun _ => ⟨_, rfl, fun j p hj => ⟨[.int .u8 p], rfl, rfl, fun i u hu => ?_⟩⟩⟩
  rcases i with _ | i
  · obtain rfl : Value.int .u8 p = u := by simpa using hu
    rw [add_plain]
    simp [Kd.int, Kd.scalar, World.cell?, h, nums, hj]
  · simp at hu
theorem TapeM.later {w w' : World} {base g : Nat} {ok S : Nat → Prop} {t : Tp} (h : TapeM w base ok g t) (hc : Ch w w' S) (hg : ¬ S g) (hn : ∀ k, ok k → ¬ S k) : TapeM w' base ok g t := by
  obtain ⟨v, hb, hr⟩ := h
  exact ⟨v, hc.blk hb hg, hr.ch hc hn⟩
theorem TapeM.lt {w : World} {base g : Nat} {ok : Nat → Prop} {t : Tp} (h : TapeM w base ok g t) : g < w.heap.size := by
  obtain ⟨v, hb, hr⟩ := h
  exact blk_lt hb
set_option maxHeartbeats 1000000 in
theorem answers_calls (w : World) : Calls Try.prog 4 #[] w fun e w' => e = .returned (.bool true) ∧ Ch w w' (fun _ => False) := by
  have kc := fun (w : World) (C : Array Value) (n c : Nat) => Lib.run_convert_bytes_const (P := Try.prog) w 27 5 C n c Try.underlying27 Try.underlying5
  have kd : ∀ (A : Option Addr) (n c : Nat) (w : World), B8.C w A n [97, 98] → (convert 27 9 (.slice A n c)).run Try.prog w = .ok (.string ⟨#[97, 98]⟩) w := fun A n c w h => conv_ab h
  have KD := Aside0.mk kd
  clear kd
  go_enter Try.func4, Try.ntmps4
  go_wp2_with (first | (go_at_call 5; go_must (refine (new_calls _).mono ?_; rintro e w1 ⟨rfl, ht1, hc1⟩; have T1 := Aside0.mk (ht1 w.heap.size (fun _ => True)); have C1 := Aside0.mk hc1; clear ht1 hc1)) | (go_at_call 6; go_must (refine (append_calls w.heap.size newT (some ⟨w1.heap.size, 0, none⟩) 2 [97, 98] (w1.alloc (.cells #[.int .u8 97, .int .u8 98] 5 (2, 3))) w.heap.size (fun _ => True) ?aT ?aA ?a1 ?a2 ?a3 ?a4 ?a5 ?aS).mono ?_; (case aT => exact T1.out.later ((Ch.refl _ _).alloc _) (fun h => h) (fun _ _ h => h)); (case aA => exact fun w' hc => C_of_blk (fr := (2, 3)) (hc.blk (blk_new _ _) (by have := T1.out.lt; omega)) (by simp)); (case a1 => simp [newT]); (case a2 => simp [newT]); (case a3 => simp [newT]); (case a4 => simp [newT]); (case a5 => simp); (case aS => have := C1.out.size; simp; omega); rw [write_ab]; rintro e w2 ⟨rfl, ht2, hc2⟩; have T2 := Aside0.mk ht2; have C2 := Aside0.mk hc2; clear ht2 hc2)) | (go_at_call 14; have _tk := C2; go_must (refine (read_ab w.heap.size 0 w2 w.heap.size _ T2.out (by omega)).mono ?_; rintro e w3 ⟨A3, c3, rfl, hr3, hc3⟩; have d3 := KD.out A3 2 c3 _ hr3; have R3 := Aside0.mk hr3; have C3 := Aside0.mk ((C1.out.alloc _).then_ (C2.out.then_ hc3 (fun _ h => h.elim)) (fun k h => .inr (Nat.le_of_eq h.symm))); have T3 := Aside0.mk (T2.out.later hc3 (fun h => h) (fun _ _ h => h)); clear hr3 hc3 C2)) | (go_at_call 14; go_must (refine (read_ab w.heap.size 1 w3 w.heap.size _ T3.out (by omega)).mono ?_; rintro e w4 ⟨A4, c4, rfl, hr4, hc4⟩; have d4 := KD.out A4 2 c4 _ hr4; have d3 := KD.out A3 2 c3 _ (Kd.C_below R3.out (hc4.quiet (fun _ h => h.elim))); have C4 := Aside0.mk (C3.out.then_ hc4 (fun _ h => h.elim)); clear hr4 hc4)))
  go_ret
  exact ⟨rfl, C4.out⟩
end Go.Proofs.Ytgehempmccponaa
