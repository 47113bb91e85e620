/- answers; RecReads, RecBack. -/
import Derived.Test.YtcpekifbbjnjmaaO
set_option linter.unusedVariables false
namespace Go.Proofs.Ytcpekifbbjnjmaa
open Go.RowKit Go.Proofs.YtcpekifbbjnjmaaW.PrintWords Go.Proofs.YtcpekifbbjnjmaaW.PrintLast Go.Proofs.YtcpekifbbjnjmaaW.PrintMore Go.Proofs.Ytcpekifbbjnjmaa.PRecBack
theorem dec_unique {bs : List Int} {r r' : Rc} (h : Dec bs r) (h' : Dec bs r') : r = r' := by
  have e1 := h.1
  have e2 := h'.1
  rw [e1] at e2
  injection e2
theorem decode_yes (A : Option Addr) (m c : Nat) (r : Rc) (bs : List Int) (w : World) (hr : Dec bs r) (hm : m = bs.length) (hmc : m ≤ c) (hA : B8.C w A m bs) (hb : Byt bs) :
    Calls Try.prog 13 #[.slice A m c] w fun e w' => ∃ v4 v5 v6 : Sl, e = .returned (.tuple #[.agg #[.int .i64 r.kind, .int .i64 r.id, .int .i64 r.size, .string r.key, .slice v4.A v4.n v4.c, .slice v5.A v5.n v5.c, .slice v6.A v6.n v6.c], .int .i64 0]) ∧
      Aside0 (Below w.heap.size w w') ∧ Aside0 (RecAt w' r v4 v5 v6) := by
  refine (decode_calls A m c bs w hm hmc hA hb).mono ?_
  rintro e w' ⟨r', v4, v5, v6, code, rfl, hbl, hra, ⟨rfl, hd⟩ | ⟨rfl, _, hn⟩⟩
  · obtain rfl := dec_unique hr hd
    exact ⟨v4, v5, v6, rfl, ⟨hbl⟩, ⟨hra⟩⟩
  · exact absurd hr (hn r)
theorem decode_no (A : Option Addr) (m c : Nat) (bs : List Int) (w : World) (hr : ∀ r, ¬ Dec bs r) (hm : m = bs.length) (hmc : m ≤ c) (hA : B8.C w A m bs) (hb : Byt bs) :
    Calls Try.prog 13 #[.slice A m c] w fun e w' => ∃ v4 v5 v6 : Sl, e = .returned (.tuple #[.agg #[.int .i64 0, .int .i64 0, .int .i64 0, .string ⟨#[]⟩, .slice v4.A v4.n v4.c, .slice v5.A v5.n v5.c, .slice v6.A v6.n v6.c], .int .i64 2]) ∧
      Aside0 (Below w.heap.size w w') ∧ Aside0 (RecAt w' rc0 v4 v5 v6) := by
  refine (decode_calls A m c bs w hm hmc hA hb).mono ?_
  rintro e w' ⟨r', v4, v5, v6, code, rfl, hbl, hra, ⟨rfl, hd⟩ | ⟨rfl, rfl, hn⟩⟩
  · exact absurd hd (hr r')
  · exact ⟨v4, v5, v6, rfl, ⟨hbl⟩, ⟨hra⟩⟩
/-- Bytes in memory. -/
structure BytesAt (w : World) (A : Option Addr) (m c : Nat) (bs : List Int) : Prop where
  n : m = bs.length
  l : m ≤ c
  c : B8.C w A m bs
theorem BytesAt.below {w W : World} {A : Option Addr} {m c : Nat} {bs : List Int} (h : BytesAt w A m c bs) (hb : Below w.heap.size w W) : BytesAt W A m c bs := ⟨h.n, h.l, Kd.C_below h.c hb⟩
def Enc1 (r : Rc) (w : World) (e : Ending) (w' : World) : Prop := ∃ A m c, e = .returned (.tuple #[.slice A m c, .int .i64 0]) ∧ Aside0 (Below w.heap.size w w') ∧ Aside0 (BytesAt w' A m c (tb (tRec r)))
theorem enc_yes {r : Rc} {w : World} {e : Ending} {w' : World} (hr : OkRec r) (h : EncTo r w e w') : Enc1 r w e w' := by
  obtain ⟨A, m, c, code, rfl, hb, ⟨_, rfl, hR⟩ | ⟨hn, _⟩⟩ := h
  · have hrr := Kd.R_reads' hR
    exact ⟨A, m, c, rfl, ⟨hb⟩, ⟨⟨hrr.1, hrr.2.1, by rw [hrr.1]; exact hrr.2.2⟩⟩⟩
  · exact absurd hr hn
def Enc0 (code : Int) (w : World) (e : Ending) (w' : World) : Prop := e = .returned (.tuple #[.slice none 0 0, .int .i64 code]) ∧ Aside0 (Below w.heap.size w w')
theorem enc_no {r : Rc} {w : World} {e : Ending} {w' : World} (hr : ¬ OkRec r) (h : EncTo r w e w') : Enc0 (if tbad (tRec r) = true then 2 else 4) w e w' := by
  obtain ⟨A, m, c, code, rfl, hb, ⟨hy, _⟩ | ⟨_, rfl, rfl, rfl, rfl⟩⟩ := h
  · exact absurd hy hr
  · exact ⟨rfl, ⟨hb⟩⟩
def rcA : Rc := ⟨2, 5, 0, ⟨#[97]⟩, [], [], []⟩
theorem okA : OkRec rcA := by
  have e : (⟨#[97]⟩ : ByteArray).size = 1 := rfl
  constructor
  · simp [tRec, rcA, tbad, tKey, tStripes, tObjects, tInts, Tok.bad, word, e]
  · rw [rec_len]
    simp [rcA, tb, tKey, tStripes, tObjects, tInts, Tok.b, be_length, bytesOf]
theorem encA (w : World) : Calls Try.prog 10 #[.agg #[.int .i64 2, .int .i64 5, .int .i64 0, .string ⟨#[97]⟩, .slice none 0 0, .slice none 0 0, .slice none 0 0]] w (Enc1 rcA w) :=
  (encode_at rcA sl0 sl0 sl0 w ⟨rfl, Nat.le_refl _, Kd.C_nil _ _, rfl, Nat.le_refl _, Kd.C_nil _ _, rfl, Nat.le_refl _, Kd.C_nil _ _⟩ (by have := okA.2; omega)).mono fun e w' h => enc_yes okA h
set_option maxHeartbeats 4000000 in
set_option maxRecDepth 100000 in
theorem answers_calls (w : World) : Calls Try.prog 9 #[] w fun e w' => e = .returned (.bool true) ∧ Aside0 (Below w.heap.size w w') := by
  have DA : Aside0 (∀ (A : Option Addr) (m c : Nat) (w2 : World), BytesAt w2 A m c (tb (tRec rcA)) → Calls Try.prog 13 #[.slice A m c] w2 fun e w' => ∃ v4 v5 v6 : Sl, e = .returned (.tuple #[.agg #[.int .i64 2, .int .i64 5, .int .i64 0, .string ⟨#[97]⟩, .slice v4.A v4.n v4.c, .slice v5.A v5.n v5.c, .slice v6.A v6.n v6.c], .int .i64 0]) ∧
      Aside0 (Below w2.heap.size w2 w') ∧ Aside0 (RecAt w' rcA v4 v5 v6)) := ⟨fun A m c w2 h => decode_yes A m c rcA _ w2 (dec_enc rcA okA) h.n h.l h.c (byt_rec rcA)⟩
  have SA : Aside0 (∀ (v4 v5 v6 : Sl) (w2 : World), RecAt w2 rcA v4 v5 v6 → Calls Try.prog 15 #[.agg #[.int .i64 2, .int .i64 5, .int .i64 0, .string ⟨#[97]⟩, .slice v4.A v4.n v4.c, .slice v5.A v5.n v5.c, .slice v6.A v6.n v6.c], .agg #[.int .i64 2, .int .i64 5, .int .i64 0, .string ⟨#[97]⟩, .slice v4.A v4.n v4.c, .slice v5.A v5.n v5.c, .slice v6.A v6.n v6.c]] w2 (Says (rcA = rcA) w2)) := ⟨fun v4 v5 v6 w2 h => psame_at rcA rcA v4 v5 v6 v4 v5 v6 w2 h h⟩
  go_enter Try.func9, Try.ntmps9
  go_wp2_with (first | (go_at_call 10; go_must (refine (encA _).mono ?_; rintro e w1 ⟨A, m, c, rfl, hb1, hB⟩)) | (go_at_call 13; go_must (refine (DA.out A m c _ hB.out).mono ?_; rintro e w2 ⟨v4, v5, v6, rfl, hb2, hR⟩; have HRA := Aside0.mk (fun o => hR.out.below (below_alloc (Below.refl _ _) o)))) | (go_at_call 15; go_must (refine (SA.out v4 v5 v6 _ (HRA.out _)).mono ?_; rintro e w3 ⟨b, rfl, hb, hb3⟩; obtain rfl : b = true := (by have h9 := hb.out.2; first | exact h9 rfl | exact h9 trivial))))
  go_ret
  refine ⟨rfl, ⟨?_⟩⟩
  have h12 := hb1.out.trans (hb2.out.mono hb1.out.size)
  have h123 := h12.alloc h12.size (.cells #[.int .i64 2, .int .i64 5, .int .i64 0, .string ⟨#[97]⟩, .slice v4.A v4.n v4.c, .slice v5.A v5.n v5.c, .slice v6.A v6.n v6.c] 26)
  exact h123.trans (hb3.out.mono h123.size)
end Go.Proofs.Ytcpekifbbjnjmaa
