/- How an argument that is a slice of operations is opened. -/
import Derived.Test.YtdiiolbkjmhmdaaOpD
import Derived.ChangeSame
namespace Go.Proofs.Ytdiiolbkjmhmdaa
open Go.ChangeShapes Go.WideShapes Go.ChangeAt Go.RowKit
set_option linter.unusedVariables false

/-- An operation as data. -/
structure Opr where
  k : Int
  l : Nat
  bs : List Int
  a : Bool
  b : Bool
  c : Bool
  d : Bool
  e : Bool
  f : Bool
instance : Inhabited Opr := ⟨⟨0, 0, [], false, false, false, false, false, false⟩⟩
/-- An operation at eight cells. -/
def OpAt (W : World) (g o : Nat) (x : Opr) : Prop :=
  ∃ B c, W.cell? ⟨g, o, none⟩ = some (.int .i64 x.k) ∧ W.cell? ⟨g, o + 1, none⟩ = some (.slice B x.l c) ∧ W.cell? ⟨g, o + 2, none⟩ = some (.bool x.a) ∧ W.cell? ⟨g, o + 3, none⟩ = some (.bool x.b) ∧ W.cell? ⟨g, o + 4, none⟩ = some (.bool x.c) ∧ W.cell? ⟨g, o + 5, none⟩ = some (.bool x.d) ∧ W.cell? ⟨g, o + 6, none⟩ = some (.bool x.e) ∧ W.cell? ⟨g, o + 7, none⟩ = some (.bool x.f) ∧ (x.l ≤ maxB → RdB W (.slice B x.l c) x.bs)
def ArgO (W : World) (A : Option Addr) (n : Nat) (os : List Opr) : Prop :=
  os.length = n ∧ (0 < n → ∃ g o, A = some ⟨g, o, none⟩ ∧ g < W.heap.size ∧ ∀ j x, os[j]? = some x → OpAt W g (o + j * 8) x)

theorem bool_one {H : Type} {enc : TypeId × Value → H} {W : World} {base n : Nat} {spare : Nat → Bool} {held : Bool} {c : Value} {xs : List (DataW H × List MemPlace)} {i : Nat}
    (hi : i < xs.length) (h : DataW.trod enc Try.prog W base spare held n 4 [c] = xs[i]?) : ∃ b, c = .bool b := bool_cell hi h

set_option maxRecDepth 100000 in
set_option maxHeartbeats 1000000 in
/-- Eight cells that are read as an operation. -/
theorem open_op {H : Type} {enc : TypeId × Value → H} {W : World} {base n : Nat} {held : Bool} {g o : Nat} {cs : List Value} {x : DataW H × List MemPlace}
    (h : DataW.trod enc Try.prog W base (fun _ => true) held n 71 cs = some x) (hl : cs.length = 8) (hc : ∀ i, i < 8 → W.cell? ⟨g, o + i, none⟩ = cs[i]?) : ∃ y, OpAt W g o y := by
  obtain ⟨xs, k, _, hx, _, hlen, hf⟩ := DataW.trod_struct Try.underlying71 h
  match cs, hl with
  | [c0, c1, c2, c3, c4, c5, c6, c7], _ =>
    have hl3 : xs.length = 3 := hlen
    have k0 : Try.prog.cellsOf 3 = 1 := by kernel_rfl
    have k1 : Try.prog.cellsOf 24 = 1 := by kernel_rfl
    have k2 : Try.prog.cellsOf 23 = 6 := by kernel_rfl
    have kb : Try.prog.cellsOf 4 = 1 := by kernel_rfl
    have g0 : DataW.trod enc Try.prog W base (fun _ => true) held k 3 [c0] = xs[0]? := by simpa [k0] using hf 0 _ rfl
    have g1 : DataW.trod enc Try.prog W base (fun _ => true) held k 24 [c1] = xs[1]? := by simpa [k1] using hf 1 _ rfl
    have g2 : DataW.trod enc Try.prog W base (fun _ => true) held k 23 [c2, c3, c4, c5, c6, c7] = xs[2]? := by simpa [k2] using hf 2 _ rfl
    rw [List.getElem?_eq_getElem (by omega)] at g0 g1 g2
    obtain ⟨z, e0, _, _⟩ := DataW.trod_int Try.underlying3 g0
    simp at e0
    subst e0
    obtain ⟨ys, k', _, _, _, hlen2, hf2⟩ := DataW.trod_struct Try.underlying23 g2
    have hl6 : ys.length = 6 := hlen2
    have b0 : DataW.trod enc Try.prog W base (fun _ => true) held k' 4 [c2] = ys[0]? := by simpa [kb] using hf2 0 _ rfl
    have b1 : DataW.trod enc Try.prog W base (fun _ => true) held k' 4 [c3] = ys[1]? := by simpa [kb] using hf2 1 _ rfl
    have b2 : DataW.trod enc Try.prog W base (fun _ => true) held k' 4 [c4] = ys[2]? := by simpa [kb] using hf2 2 _ rfl
    have b3 : DataW.trod enc Try.prog W base (fun _ => true) held k' 4 [c5] = ys[3]? := by simpa [kb] using hf2 3 _ rfl
    have b4 : DataW.trod enc Try.prog W base (fun _ => true) held k' 4 [c6] = ys[4]? := by simpa [kb] using hf2 4 _ rfl
    have b5 : DataW.trod enc Try.prog W base (fun _ => true) held k' 4 [c7] = ys[5]? := by simpa [kb] using hf2 5 _ rfl
    obtain ⟨a, rfl⟩ := bool_one (by omega) b0
    obtain ⟨b, rfl⟩ := bool_one (by omega) b1
    obtain ⟨c, rfl⟩ := bool_one (by omega) b2
    obtain ⟨d, rfl⟩ := bool_one (by omega) b3
    obtain ⟨e, rfl⟩ := bool_one (by omega) b4
    obtain ⟨f, rfl⟩ := bool_one (by omega) b5
    have q0 := hc 0 (by omega)
    have q1 := hc 1 (by omega)
    have q2 := hc 2 (by omega)
    have q3 := hc 3 (by omega)
    have q4 := hc 4 (by omega)
    have q5 := hc 5 (by omega)
    have q6 := hc 6 (by omega)
    have q7 := hc 7 (by omega)
    simp at q0 q1 q2 q3 q4 q5 q6 q7
    rcases open_ints Try.underlying24 Try.underlying5 (by kernel_rfl) g1 with ⟨hcs, _⟩ | ⟨x', l, cp, zs, hcs, _, hl', hm, hz, _, hcell, hwz⟩
    · simp at hcs
      subst hcs
      exact ⟨⟨z, 0, [], a, b, c, d, e, f⟩, none, 0, q0, q1, q2, q3, q4, q5, q6, q7, fun _ => RdB.nil _ _ _ ⟨by omega, fun _ => rfl⟩⟩
    · simp at hcs
      subst hcs
      refine ⟨⟨z, l, zs.take l, a, b, c, d, e, f⟩, some x', cp, q0, q1, q2, q3, q4, q5, q6, q7, fun hmx => ?_⟩
      simp only [if_true] at hz
      exact row_rd hl' hm hz hwz (fun h => nomatch h) (fun a' ha i hi => by injection ha with ha; subst ha; exact hcell i (by omega)) hmx

set_option maxRecDepth 100000 in
theorem open_ops {H : Type} {enc : TypeId × Value → H} {W : World} {base b0 : Nat} {held : Bool} {r : Reach} {v : Value} {d : DataW H} {p : List MemPlace}
    (hv : Value.okWide Try.prog W r b0 69 v) (h : DataW.Trod enc Try.prog W base (fun _ => true) held 69 v d p) :
    ∃ A n cap os, v = .slice A n cap ∧ (n : Int) ≤ 9223372036854775807 ∧ ArgO W A n os ∧ ((n = 0) ∨ ∃ E Sp, d = .slice E Sp ∧ E.length = n) := by
  obtain ⟨a0, l0, c0, rfl⟩ := okWide_slice Try.underlying69 hv
  obtain ⟨fuel, hf⟩ := h
  rcases Go.Deep.open_slice Try.underlying69 hf with ⟨hcs, _⟩ | ⟨x, len, cap, m, k, D, Pl, hcs, _, hl, hm, hmm, hd, hrow⟩
  · simp [Value.cells] at hcs
    obtain ⟨rfl, rfl, rfl⟩ := hcs
    exact ⟨none, 0, 0, [], rfl, by omega, ⟨rfl, fun h => absurd h (by omega)⟩, .inl rfl⟩
  · simp [Value.cells] at hcs
    obtain ⟨rfl, rfl, rfl⟩ := hcs
    simp only [if_true] at hmm
    subst hmm
    have hm' : m ≤ 9223372036854775807 := by unfold maxLen at hm; omega
    have k8 : Try.prog.cellsOf 71 = 8 := by kernel_rfl
    obtain ⟨g, o, spot⟩ := x
    by_cases h0 : l0 = 0
    · subst h0
      exact ⟨some ⟨g, o, spot⟩, 0, m, [], rfl, by omega, ⟨rfl, fun h => absurd h (by omega)⟩, .inl rfl⟩
    · have hspot : spot = none ∧ g < W.heap.size := by
        obtain ⟨cs', h1, h2⟩ := hrow 0 (by omega)
        rw [k8] at h1
        obtain ⟨_, hlen, hcell⟩ := World.cells?_some h1
        have h3 := hcell 0 (by omega)
        rw [List.getElem?_eq_getElem (by omega)] at h3
        have hs : spot = none := by simpa [Addr.add] using World.cell?_spot h3
        subst hs
        exact ⟨rfl, by have := World.block_lt_of_cell? (h := h3); simpa [Go.WideShapes.add_plain] using this⟩
      obtain ⟨rfl, hg⟩ := hspot
      have each : ∀ j, j < l0 → ∃ y, OpAt W g (o + j * 8) y := fun j hj => by
        obtain ⟨cs', h1, h2⟩ := hrow j (by omega)
        rw [k8] at h1
        obtain ⟨_, hlen, hcell⟩ := World.cells?_some h1
        refine open_op h2 hlen (fun i hi => ?_)
        have h3 := hcell i (by omega)
        rw [Go.WideShapes.add_plain, Go.WideShapes.add_plain] at h3
        exact h3
      obtain ⟨y, hy⟩ := Go.Deep.choose_lt each
      refine ⟨some ⟨g, o, none⟩, l0, m, (List.range l0).map y, rfl, by omega, ⟨by simp, fun _ => ⟨g, o, rfl, hg, fun j x hx => ?_⟩⟩, .inr ⟨_, _, (Prod.mk.inj hd).1, by simp⟩⟩
      have hjl : j < l0 := by
        have := (List.getElem?_eq_some_iff.1 hx).1
        simpa using this
      have : x = y j := by
        rw [List.getElem?_map, List.getElem?_range hjl] at hx
        simpa using hx.symm
      rw [this]
      exact hy j hjl

end Go.Proofs.Ytdiiolbkjmhmdaa
