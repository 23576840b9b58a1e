/- How an argument that is a slice of bytes is opened. -/
import Derived.Test.YtdiiolbkjmhmdaaOpen
import Derived.Test.YtdiiolbkjmhmdaaHdC
namespace Go.Proofs.Ytdiiolbkjmhmdaa
open Go.ChangeShapes Go.WideShapes Go.ChangeAt Go.RowKit
set_option linter.unusedVariables false

set_option maxRecDepth 100000 in
theorem open_bytes {H : Type} {enc : TypeId × Value → H} {W : World} {base b0 : Nat} {spare : Nat → Bool} {held : Bool} {r : Reach} {v : Value} {d : DataW H} {p : List MemPlace}
    (hv : Value.okWide Try.prog W r b0 24 v) (h : DataW.Trod enc Try.prog W base spare held 24 v d p) :
    ∃ A l cap zs, v = .slice A l cap ∧ (l ≤ maxB → RdB W (.slice A l cap) zs) := by
  obtain ⟨a0, l0, c0, rfl⟩ := okWide_slice Try.underlying24 hv
  obtain ⟨fuel, hf⟩ := h
  rcases open_ints Try.underlying24 Try.underlying5 (by kernel_rfl) hf with ⟨hcs, _⟩ | ⟨x, l, c, zs, hcs, _, hl, hm, hz, _, hcell, hwz⟩
  · simp [Value.cells] at hcs
    obtain ⟨rfl, rfl, rfl⟩ := hcs
    exact ⟨none, 0, 0, [], rfl, fun _ => RdB.nil _ _ _ ⟨by omega, fun _ => rfl⟩⟩
  · simp [Value.cells] at hcs
    obtain ⟨rfl, rfl, rfl⟩ := hcs
    refine ⟨some x, l0, c0, zs.take l0, rfl, fun hmx => ?_⟩
    have hlz : l0 ≤ zs.length := by rw [hz]; split <;> omega
    have hlen : (zs.take l0).length = l0 := by rw [List.length_take]; omega
    refine ⟨fun y hy => bounds_u8 (hwz y (List.mem_of_mem_take hy)), by rw [hlen]; exact hmx, some x, c0, by rw [hlen], by rw [hlen]; exact hl, ⟨by unfold maxLen at hm; omega, fun h => nomatch h⟩, fun hp => ?_⟩
    rw [hlen] at hp
    obtain ⟨b, off, rfl, hc⟩ := ints_at hcell (by omega)
    refine ⟨b, off, rfl, World.block_lt_of_cell? (w := W) (a := ⟨b, off + 0, none⟩) (h := hc 0 (by omega)), fun j hj => ?_⟩
    rw [hlen] at hj
    rw [hc j (by omega)]
    simp [List.getD_eq_getElem?_getD, hj]

end Go.Proofs.Ytdiiolbkjmhmdaa
