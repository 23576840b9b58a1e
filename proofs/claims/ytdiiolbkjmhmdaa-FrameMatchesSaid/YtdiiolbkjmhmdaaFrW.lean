/- A nil framer; a world of which bytes are turned outside of the framer. -/
import Derived.Test.YtdiiolbkjmhmdaaFrV
namespace Go.Proofs.Ytdiiolbkjmhmdaa
open Go.RowKit
set_option linter.unusedSimpArgs false
set_option linter.unusedVariables false

set_option maxRecDepth 100000 in
theorem feed_nil (A : Option Addr) (m cm : Nat) (w : World) (hm : (m : Int) ≤ 9223372036854775807) : Calls Try.prog 30 #[.pointer none, .slice A m cm] w (RV (.slice none 0 0) w) := by
  have HC := Lib.hid (closed_nil w)
  by_cases hp : (0 : Int) < m
  · go_enter Try.func30, Try.ntmps30
    go_wp2_with fail
    refine wp_loop_rounds 2 ?_
    rw [rounds_succ]
    go_wp2_with fail
    refine HC.out.mono ?_
    rintro r w1 ⟨rfl, hb⟩
    have HB := Lib.hid hb
    clear hb
    go_wp2_with fail
    go_ret
    exact ⟨rfl, HB.out⟩
  · have h0 : m = 0 := by omega
    subst h0
    clear hp hm
    go_enter Try.func30, Try.ntmps30
    go_wp2_with fail
    refine wp_loop_rounds 2 ?_
    rw [rounds_succ]
    go_wp2_with fail
    go_ret
    exact ⟨rfl, Below.refl _ _⟩

/-- Only bytes are turned, and none of the framer's. -/
structure Tw (g : Nat) (K : Option Nat) (w W : World) : Prop where
  os : W.os = w.os
  tape : W.tape = w.tape
  output : W.output = w.output
  size : w.heap.size ≤ W.heap.size
  low : ∀ k, k < w.heap.size → (k ≤ g ∨ some k = K) → W.heap[k]? = w.heap[k]?
  cell : ∀ (p : Addr) (u : Value), p.block < w.heap.size → w.cell? p = some u → W.cell? p = some u ∨ ((∃ x, u = .int .u8 x) ∧ ∃ y, W.cell? p = some (.int .u8 y))
  frozen : ∀ (p : Addr), p.block < w.heap.size → W.frozen? p = w.frozen? p
section
variable {g : Nat} {K : Option Nat} {w W W' : World}
theorem Tw.refl : Tw g K w w := ⟨rfl, rfl, rfl, Nat.le_refl _, fun _ _ _ => rfl, fun _ _ _ h => .inl h, fun _ _ => rfl⟩
theorem Tw.below (h : Tw g K w W) (hb : Below W.heap.size W W') : Tw g K w W' :=
  ⟨hb.os.trans h.os, hb.tape.trans h.tape, hb.output.trans h.output, Nat.le_trans h.size hb.size, fun k hk hh => (hb.block k (Nat.lt_of_lt_of_le hk h.size)).trans (h.low k hk hh),
    fun p u hp hu => by rw [hb.cell (Nat.lt_of_lt_of_le hp h.size)]; exact h.cell p u hp hu, fun p hp => by rw [hb.frozen (Nat.lt_of_lt_of_le hp h.size)]; exact h.frozen p hp⟩
theorem Tw.set (h : Tw g K w W) {p : Addr} (hp : p.block < w.heap.size) (hg : g < p.block) (hK : some p.block ≠ K) {x : Int} (hx : w.cell? p = some (.int .u8 x)) (y : Int) : Tw g K w (W.setCell p (.int .u8 y)) := by
  refine ⟨h.os, h.tape, h.output, by simpa using h.size, fun k hk hh => ?_, fun q u hq hu => ?_, fun q hq => by rw [World.frozen?_setCell]; exact h.frozen q hq⟩
  · rw [Below.heap_setCell _ _ _ _ (fun e => by
      subst e
      rcases hh with hh | hh
      · omega
      · exact hK hh)]
    exact h.low k hk hh
  · by_cases e : q = p
    · subst e
      rw [hx] at hu
      injection hu with hu
      refine .inr ⟨⟨x, hu.symm⟩, y, ?_⟩
      rcases h.cell q _ hp hx with h1 | ⟨_, z, h1⟩
      · exact World.cell?_setCell_same _ _ _ h1
      · exact World.cell?_setCell_same _ _ _ h1
    · rw [World.cell?_setCell_other _ _ _ _ (fun e' => e e'.symm)]
      exact h.cell q u hq hu
theorem Tw.byte (h : Tw g K w W) {p : Addr} (hp : p.block < w.heap.size) {x : Int} (hx : w.cell? p = some (.int .u8 x)) : ∃ y, W.cell? p = some (.int .u8 y) := by
  rcases h.cell p _ hp hx with h1 | ⟨_, y, h1⟩
  · exact ⟨x, h1⟩
  · exact ⟨y, h1⟩
theorem Tw.keep (h : Tw g K w W) {p : Addr} (hp : p.block < w.heap.size) {u : Value} (hu : w.cell? p = some u) (hn : ∀ x, u ≠ .int .u8 x) : W.cell? p = some u := by
  rcases h.cell p _ hp hu with h1 | ⟨⟨x, h2⟩, _⟩
  · exact h1
  · exact absurd h2 (hn x)
theorem Tw.bel (h : Tw g K w W) {B : Nat} (hB : B ≤ w.heap.size) (hg : B ≤ g) : Below B w W := ⟨h.os, h.tape, h.output, h.size, fun k hk => h.low k (by omega) (.inl (by omega))⟩
theorem Fr.tw {v : Value} {s : St} {a b c d e f : Bool} (hF : Fr w g K v s a b c d e f) (h : Tw g K w W) : Fr W g K v s a b c d e f := by
  have hg := h.low g hF.glt (.inl (Nat.le_refl _))
  refine ⟨⟨Nat.lt_of_lt_of_le hF.glt h.size, fun j hj => ⟨?_, ?_⟩⟩, ⟨hF.own.1, ?_⟩, hF.blk, hF.ne, hF.ok⟩
  · rw [World.cell?_of_block (w := w) (a := ⟨g, j, none⟩) hg]; exact (hF.cs.2 j hj).1
  · rw [World.frozen?_of_block (w := w) (a := ⟨g, j, none⟩) hg]; exact (hF.cs.2 j hj).2
  · rcases hF.own.2 with hn | ⟨g', cap, cur, e, h1, h2, h3⟩
    · exact .inl hn
    · have hk : some g' = K := by rw [← hF.blk, e]; rfl
      exact .inr ⟨g', cap, cur, e, h1, by rw [h.low g' (hF.lt g' hk.symm) (.inr hk)]; exact h2, h3⟩
end

end Go.Proofs.Ytdiiolbkjmhmdaa
