/- How an argument that is a slice of slices of bytes is opened. -/
import Derived.Test.YtdiiolbkjmhmdaaOpen
import Derived.Test.YtdiiolbkjmhmdaaHdC
import Derived.Deep.Matrix
namespace Go.Proofs.Ytdiiolbkjmhmdaa
open Go.ChangeShapes Go.WideShapes Go.ChangeAt Go.RowKit
set_option linter.unusedVariables false

/-- A slice of slices of bytes that came in: the lengths, and the bytes where a length is no giant's. -/
def Arg2 (W : World) (A : Option Addr) (n : Nat) (ls : List Nat) (ps : List (List Int)) : Prop :=
  ls.length = n ∧ ps.length = n ∧ (0 < n → ∃ g o, A = some ⟨g, o, none⟩ ∧ g < W.heap.size ∧ ∀ j, j < n → ∃ B c, W.cell? ⟨g, o + j, none⟩ = some (.slice B (ls.getD j 0) c) ∧ (ls.getD j 0 ≤ maxB → RdB W (.slice B (ls.getD j 0) c) (ps.getD j [])))

/-- One slice of bytes, as 'open_int_rows' gives it. -/
theorem row_rd {W : World} {B : Option Addr} {l c : Nat} {zs : List Int} (hl : l ≤ c) (hm : c ≤ maxLen) (hz : zs.length = c) (hw : ∀ n ∈ zs, (Lit.int IntKind.u8 n).wf = true) (h0 : B = none → c = 0)
    (hc : ∀ a', B = some a' → ∀ i, i < c → W.cell? (a'.add i) = some (.int .u8 (zs.getD i 0))) (hmx : l ≤ maxB) : RdB W (.slice B l c) (zs.take l) := by
  have hlen : (zs.take l).length = l := by rw [List.length_take]; omega
  refine ⟨fun y hy => bounds_u8 (hw y (List.mem_of_mem_take hy)), by rw [hlen]; exact hmx, B, c, by rw [hlen], by rw [hlen]; exact hl, ⟨by unfold maxLen at hm; omega, h0⟩, fun hp => ?_⟩
  rw [hlen] at hp
  cases B with
  | none => have := h0 rfl; omega
  | some a' =>
    obtain ⟨b, off, rfl, hcc⟩ := ints_at (w := W) (a := a') (k := .u8) (zs := zs) (fun i hi => hc a' rfl i (by omega)) (by omega)
    refine ⟨b, off, rfl, World.block_lt_of_cell? (w := W) (a := ⟨b, off + 0, none⟩) (h := hcc 0 (by omega)), fun j hj => ?_⟩
    rw [hlen] at hj
    rw [hcc j (by omega)]
    simp [List.getD_eq_getElem?_getD, hj]

set_option maxRecDepth 100000 in
theorem open_bytes2 {H : Type} {enc : TypeId × Value → H} {W : World} {base b0 : Nat} {held : Bool} {r : Reach} {v : Value} {d : DataW H} {p : List MemPlace}
    (hv : Value.okWide Try.prog W r b0 62 v) (h : DataW.Trod enc Try.prog W base (fun _ => true) held 62 v d p) :
    ∃ A n cap ls ps, v = .slice A n cap ∧ (n : Int) ≤ 9223372036854775807 ∧ (cap : Int) ≤ 9223372036854775807 ∧ n ≤ cap ∧ Arg2 W A n ls ps := by
  obtain ⟨a0, l0, c0, rfl⟩ := okWide_slice Try.underlying62 hv
  obtain ⟨fuel, hf⟩ := h
  rcases Go.Deep.open_int_rows Try.underlying62 Try.underlying24 Try.underlying5 (by kernel_rfl) (by kernel_rfl) hf with ⟨hcs, _⟩ | ⟨x, len, cap, A, L, C, Z, hcs, _, hl, hm, _, hrow⟩
  · simp [Value.cells] at hcs
    obtain ⟨rfl, rfl, rfl⟩ := hcs
    exact ⟨none, 0, 0, [], [], rfl, by omega, by omega, by omega, rfl, rfl, fun h => absurd h (by omega)⟩
  · simp [Value.cells] at hcs
    obtain ⟨rfl, rfl, rfl⟩ := hcs
    have hm' : c0 ≤ 9223372036854775807 := by unfold maxLen at hm; omega
    refine ⟨some x, l0, c0, (List.range l0).map L, (List.range l0).map (fun r => (Z r).take (L r)), rfl, by omega, by omega, hl, by simp, by simp, fun hp => ?_⟩
    obtain ⟨g, o, spot⟩ := x
    have hspot : spot = none := by simpa [Addr.add] using World.cell?_spot (hrow 0 (by omega)).1
    subst hspot
    refine ⟨g, o, rfl, World.block_lt_of_cell? (w := W) (a := ⟨g, o + 0, none⟩) (h := by have := (hrow 0 (by omega)).1; rwa [Go.WideShapes.add_plain] at this), fun j hj => ?_⟩
    obtain ⟨h1, h2, h3, h4, h5, h6, h7⟩ := hrow j (by omega)
    have e1 : ((List.range l0).map L).getD j 0 = L j := by simp [List.getD_eq_getElem?_getD, hj]
    have e2 : ((List.range l0).map (fun r => (Z r).take (L r))).getD j [] = (Z j).take (L j) := by simp [List.getD_eq_getElem?_getD, hj]
    rw [e1, e2]
    exact ⟨A j, C j, by rw [← Go.WideShapes.add_plain]; exact h1, fun hmx => row_rd h2 h3 h4 h5 h6 (fun a' ha i hi => (h7 a' ha).2 i hi) hmx⟩

end Go.Proofs.Ytdiiolbkjmhmdaa
