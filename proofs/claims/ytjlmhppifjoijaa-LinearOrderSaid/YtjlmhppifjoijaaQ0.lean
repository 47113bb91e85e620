/- Arguments that came in, opened. -/
import Derived.Test.YtjlmhppifjoijaaOs
import Derived.Test.YtjlmhppifjoijaaJ
set_option linter.unusedVariables false
namespace Go.Proofs.Ytjlmhppifjoijaa
open Go.RowKit Go.Proofs.YtjlmhppifjoijaaW.PrintWords Go.Proofs.YtjlmhppifjoijaaW.PrintLast Go.Proofs.YtjlmhppifjoijaaW.PrintMore
theorem own : ownKnob Try.prog.godebug = none := by kernel_rfl
theorem laidOut : laidOutB Try.prog = true := by kernel_rfl
theorem bytes_in {H : Type} {enc : TypeId × Value → H} {w : World} {base : Nat} {spare : Nat → Bool} {held : Bool} {fuel : Nat} {a : Option Addr} {len cap : Nat} {x : DataW H × List MemPlace}
    (h : DataW.trod enc Try.prog w base spare held fuel 22 [.slice a len cap] = some x) : ∃ bs : List Int, len = bs.length ∧ bs.length ≤ cap ∧ (Kd.int .u8).C w a bs.length bs ∧ (∀ z ∈ bs, 0 ≤ z ∧ z < 256) := by
  obtain ⟨bs, ⟨A, c, hcs, hl, hC⟩, hq, _, _⟩ := (opensS_slice Try.underlying22 (by kernel_rfl) (B := 1) (by kernel_rfl) (opensS_int Try.underlying5) 5).op h
  obtain ⟨rfl, rfl, rfl⟩ : a = A ∧ len = bs.length ∧ cap = c := by simpa using hcs
  refine ⟨bs, rfl, hl, hC, fun x hx => ?_⟩
  have := hq x hx
  simp [Lit.wf, IntKind.min, IntKind.max, IntKind.signed, IntKind.bits] at this
  omega
def kB : Kd (List Int) := Kd.slice 5 (Kd.int .u8)
def kSs : Kd (List ByteArray) := Kd.slice 9 Kd.string
def k29' := Kd.pair (Kd.int .i64) (Kd.pair (Kd.int .i64) (Kd.pair Kd.string (Kd.pair kB (Kd.pair (Kd.int .i64) (Kd.pair (Kd.int .i64) (Kd.pair (Kd.int .i64) (Kd.pair (Kd.int .i64) (Kd.pair kB kSs))))))))
theorem opens29 : ∃ Q S m, OpensS Try.prog 29 k29' Q S m :=
  ⟨_, _, _, opensS_struct Try.underlying29 (by kernel_rfl) (opensSF_cons rfl (by kernel_rfl) (opensS_int Try.underlying3) (opensSF_cons rfl (by kernel_rfl) (opensS_int Try.underlying3) (opensSF_cons rfl (by kernel_rfl) (opensS_string Try.underlying9) (opensSF_cons rfl (by kernel_rfl) (opensS_slice Try.underlying22 (by kernel_rfl) (B := 1) (by kernel_rfl) (opensS_int Try.underlying5) 5) (opensSF_cons rfl (by kernel_rfl) (opensS_int Try.underlying3) (opensSF_cons rfl (by kernel_rfl) (opensS_int Try.underlying3) (opensSF_cons rfl (by kernel_rfl) (opensS_int Try.underlying3) (opensSF_cons rfl (by kernel_rfl) (opensS_int Try.underlying26) (opensSF_cons rfl (by kernel_rfl) (opensS_slice Try.underlying22 (by kernel_rfl) (B := 1) (by kernel_rfl) (opensS_int Try.underlying5) 5) (opensSF_one rfl (by kernel_rfl) (opensS_slice Try.underlying27 (by kernel_rfl) (B := 16) (by kernel_rfl) (opensS_string Try.underlying9) 9)))))))))))⟩
theorem raw_of {w : World} {y} {cs : List Value} (h : k29'.K w y cs) : ∃ x : Cl, cs = x.cells := by
  obtain ⟨_, _, rfl, rfl, _, _, rfl, rfl, _, _, rfl, rfl, _, _, rfl, ⟨A3, c3, rfl, _, _⟩, _, _, rfl, rfl, _, _, rfl, rfl, _, _, rfl, rfl, _, _, rfl, rfl, _, _, rfl, ⟨A8, c8, rfl, _, _⟩, ⟨A9, c9, rfl, _, _⟩⟩ := h
  exact ⟨⟨_, _, _, ⟨A3, _, c3, []⟩, _, _, _, _, ⟨A8, _, c8, []⟩, ⟨A9, _, c9, []⟩⟩, rfl⟩
theorem raw_C {w : World} {A : Option Addr} {n : Nat} {ys} (h : k29'.C w A n ys) : ∃ xs : List Cl, kCl.C w A n xs := by
  obtain ⟨h1, h2, h3⟩ := h
  rcases Nat.eq_zero_or_pos n with rfl | hn
  · exact ⟨[], rfl, h2, fun h => absurd h (by omega)⟩
  · obtain ⟨ad, rfl, hall⟩ := h3 hn
    obtain ⟨xs, hl, hx⟩ := list_ofS (p := fun j (x : Cl) => ∀ i u, x.cells[i]? = some u → w.cell? (ad.add (j * 10 + i)) = some u) n (fun j hj => by
      obtain ⟨cs, hl, hK, hc⟩ := hall j _ (List.getElem?_eq_getElem (by omega))
      obtain ⟨x, rfl⟩ := raw_of hK
      exact ⟨x, hc⟩)
    exact ⟨xs, hl, h2, fun _ => ⟨ad, rfl, fun j p hp => ⟨p.cells, rfl, rfl, hx j p hp⟩⟩⟩
theorem calls_in {H : Type} {enc : TypeId × Value → H} {w : World} {base : Nat} {spare : Nat → Bool} {held : Bool} {fuel : Nat} {a : Option Addr} {len cap : Nat} {x : DataW H × List MemPlace}
    (h : DataW.trod enc Try.prog w base spare held fuel 24 [.slice a len cap] = some x) : ∃ xs : List Cl, kCl.C w a len xs := by
  obtain ⟨_, _, _, h29⟩ := opens29
  obtain ⟨ys, ⟨A, c, hcs, hl, hC⟩, _⟩ := (opensS_slice Try.underlying24 (by kernel_rfl) (B := 136) (by kernel_rfl) h29 29).op h
  obtain ⟨rfl, rfl, rfl⟩ : a = A ∧ len = ys.length ∧ cap = c := by simpa using hcs
  exact raw_C hC
end Go.Proofs.Ytjlmhppifjoijaa
