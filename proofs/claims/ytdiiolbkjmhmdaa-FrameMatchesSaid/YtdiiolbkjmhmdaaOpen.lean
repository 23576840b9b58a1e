/- How an argument that is a record of options is opened: six truth values. -/
import Derived.Test.YtdiiolbkjmhmdaaRows
import Derived.WalkKit
import Derived.ProofKit
import Derived.OpenShut
import Derived.ChangeOld
import Derived.Below
namespace Go.Proofs.Ytdiiolbkjmhmdaa
open Go.ChangeShapes Go.WideShapes Go.ChangeAt Go.RowKit
set_option linter.unusedVariables false

theorem own : ownKnob Try.prog.godebug = none := by kernel_rfl
theorem laidOut : laidOutB Try.prog = true := by kernel_rfl

theorem bool_cell {H : Type} {enc : TypeId × Value → H} {W : World} {base n : Nat} {spare : Nat → Bool} {held : Bool} {c : Value} {xs : List (DataW H × List MemPlace)} {i : Nat}
    (hi : i < xs.length) (h : DataW.trod enc Try.prog W base spare held n 4 [c] = xs[i]?) : ∃ b, c = .bool b := by
  rw [List.getElem?_eq_getElem hi] at h
  obtain ⟨b, hb, _⟩ := DataW.trod_bool Try.underlying4 h
  exact ⟨b, by simpa using hb⟩

set_option maxRecDepth 100000 in
/-- A record of options that came in: six truth values. -/
theorem open_opts {H : Type} {enc : TypeId × Value → H} {W : World} {base b0 : Nat} {spare : Nat → Bool} {held : Bool} {r : Reach} {v : Value} {d : DataW H} {p : List MemPlace}
    (hv : Value.okWide Try.prog W r b0 23 v) (h : DataW.Trod enc Try.prog W base spare held 23 v d p) :
    ∃ a b c d e f : Bool, v = .agg #[.bool a, .bool b, .bool c, .bool d, .bool e, .bool f] := by
  obtain ⟨cs, rfl, hsz⟩ := okWide_struct Try.underlying23 hv
  have hC : Try.prog.cellsOf 23 = 6 := by kernel_rfl
  rw [hC] at hsz
  obtain ⟨l⟩ := cs
  match l, hsz with
  | [c0, c1, c2, c3, c4, c5], _ =>
    obtain ⟨fuel, hf⟩ := h
    obtain ⟨xs, n, _, hx, _, hlen, hg⟩ := DataW.trod_struct Try.underlying23 hf
    have k : Try.prog.cellsOf 4 = 1 := by kernel_rfl
    have hl : xs.length = 6 := hlen
    have g0 : DataW.trod enc Try.prog W base spare held n 4 [c0] = xs[0]? := by simpa [Value.cells, k] using hg 0 _ rfl
    have g1 : DataW.trod enc Try.prog W base spare held n 4 [c1] = xs[1]? := by simpa [Value.cells, k] using hg 1 _ rfl
    have g2 : DataW.trod enc Try.prog W base spare held n 4 [c2] = xs[2]? := by simpa [Value.cells, k] using hg 2 _ rfl
    have g3 : DataW.trod enc Try.prog W base spare held n 4 [c3] = xs[3]? := by simpa [Value.cells, k] using hg 3 _ rfl
    have g4 : DataW.trod enc Try.prog W base spare held n 4 [c4] = xs[4]? := by simpa [Value.cells, k] using hg 4 _ rfl
    have g5 : DataW.trod enc Try.prog W base spare held n 4 [c5] = xs[5]? := by simpa [Value.cells, k] using hg 5 _ rfl
    obtain ⟨a, rfl⟩ := bool_cell (by omega) g0
    obtain ⟨b, rfl⟩ := bool_cell (by omega) g1
    obtain ⟨c, rfl⟩ := bool_cell (by omega) g2
    obtain ⟨d, rfl⟩ := bool_cell (by omega) g3
    obtain ⟨e, rfl⟩ := bool_cell (by omega) g4
    obtain ⟨f, rfl⟩ := bool_cell (by omega) g5
    exact ⟨a, b, c, d, e, f, rfl⟩

end Go.Proofs.Ytdiiolbkjmhmdaa
