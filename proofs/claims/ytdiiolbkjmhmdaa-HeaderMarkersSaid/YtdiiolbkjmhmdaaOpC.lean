/- How an argument that is an array of two bytes is opened. -/
import Derived.Test.YtdiiolbkjmhmdaaOpen
import Derived.Test.YtdiiolbkjmhmdaaHdC
namespace Go.Proofs.Ytdiiolbkjmhmdaa
open Go.ChangeShapes Go.WideShapes Go.ChangeAt Go.RowKit
set_option linter.unusedVariables false

set_option maxRecDepth 100000 in
theorem open_arr2 {H : Type} {enc : TypeId × Value → H} {W : World} {base b0 : Nat} {spare : Nat → Bool} {held : Bool} {r : Reach} {v : Value} {d : DataW H} {p : List MemPlace}
    (hv : Value.okWide Try.prog W r b0 45 v) (h : DataW.Trod enc Try.prog W base spare held 45 v d p) :
    ∃ x y : Int, v = .agg #[.int .u8 x, .int .u8 y] ∧ (0 ≤ x ∧ x ≤ 255) ∧ (0 ≤ y ∧ y ≤ 255) := by
  simp only [Value.okWide, Try.underlying45] at hv
  obtain ⟨cs, rfl, hsz, _⟩ := hv
  have hC : Try.prog.cellsOf 45 = 2 := by kernel_rfl
  have hD : Try.prog.cellsOf 5 = 1 := by kernel_rfl
  rw [hC] at hsz
  obtain ⟨l⟩ := cs
  match l, hsz with
  | [c0, c1], _ =>
    obtain ⟨fuel, hf⟩ := h
    obtain ⟨xs, n, _, hx, _, hlen, hg⟩ := DataW.trod_array Try.underlying45 hf
    match xs, hlen with
    | [x0, x1], _ =>
      have g0 : DataW.trod enc Try.prog W base spare held n 5 [c0] = some x0 := by simpa [Value.cells, hD] using hg 0 (by decide)
      have g1 : DataW.trod enc Try.prog W base spare held n 5 [c1] = some x1 := by simpa [Value.cells, hD] using hg 1 (by decide)
      obtain ⟨k0, e0, _, w0⟩ := DataW.trod_int Try.underlying5 g0
      obtain ⟨k1, e1, _, w1⟩ := DataW.trod_int Try.underlying5 g1
      simp at e0 e1
      subst e0 e1
      exact ⟨k0, k1, rfl, bounds_u8 w0, bounds_u8 w1⟩

end Go.Proofs.Ytdiiolbkjmhmdaa
