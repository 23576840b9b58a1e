/- header.Parse's pieces. -/
import Derived.Test.YtdiiolbkjmhmdaaHdN
import Derived.Test.YtdiiolbkjmhmdaaHdB
import Derived.Test.YtdiiolbkjmhmdaaHdD
import Derived.Test.YtdiiolbkjmhmdaaQS
namespace Go.Proofs.Ytdiiolbkjmhmdaa
open Go.RowKit
set_option linter.unusedSimpArgs false
set_option linter.unusedVariables false

/-- The header's value and the verdict's. -/
def hv (n k : Int) : Value := .agg #[.int .i64 n, .int .i64 k]
def vv (a b c : Int) (d : Value) (e : Int) : Value := .agg #[.int .i64 a, .int .i64 b, .int .i64 c, d, .int .i64 e]
theorem fail_any (s i : Int) (A : Option Addr) (n c : Nat) (w : World) : Calls Try.prog 47 #[.int .i64 s, .int .i64 i, .slice A n c] w (RV (.tuple #[.agg #[.int .i64 0, .int .i64 0], .agg #[.int .i64 4, .int .i64 1, .int .i64 s, .slice A n c, .int .i64 i]]) w) := by
  go_enter Try.func47, Try.ntmps47
  go_wp2_with fail
  refine bodyPost_ret (v := .tuple #[.agg #[.int .i64 0, .int .i64 0], .agg #[.int .i64 4, .int .i64 1, .int .i64 s, .slice A n c, .int .i64 i]]) (by simp [results, Try.results47, go_sem]) rfl ⟨rfl, ?_⟩
  exact below_alloc (below_alloc (Below.refl _ _) _) _
theorem bad_any (s i : Int) (A : Option Addr) (n c : Nat) (w : World) : Calls Try.prog 53 #[.int .i64 s, .int .i64 i, .slice A n c] w (RV (.agg #[.int .i64 4, .int .i64 1, .int .i64 s, .slice A n c, .int .i64 i]) w) := by
  go_enter Try.func53, Try.ntmps53
  go_wp2_with fail
  refine bodyPost_ret (v := .agg #[.int .i64 4, .int .i64 1, .int .i64 s, .slice A n c, .int .i64 i]) (by simp [results, Try.results53, go_sem]) rfl ⟨rfl, ?_⟩
  exact below_alloc (Below.refl _ _) _

/-- What Parse hands back. -/
def PP (n k a b c e : Int) (ds : List Int) (w : World) (r : Ending) (w' : World) : Prop :=
  ∃ A cp, r = .returned (.tuple #[.agg #[.int .i64 n, .int .i64 k], .agg #[.int .i64 a, .int .i64 b, .int .i64 c, .slice A ds.length cp, .int .i64 e]]) ∧ RdB w' (.slice A ds.length cp) ds ∧ Below w.heap.size w w'
theorem RdB.take {w : World} {A : Option Addr} {m cap q : Nat} {xs : List Int} (h : RdB w (.slice A m cap) xs) (hq : q ≤ m) : RdB w (.slice A q cap) (xs.take q) := by
  obtain ⟨h1, h2, A', c', e, h3, h4, h5⟩ := h
  injection e with e1 e2 e3
  subst e1 e2 e3
  have hl : (xs.take q).length = q := by rw [List.length_take]; omega
  refine ⟨fun x hx => h1 x (List.mem_of_mem_take hx), by omega, A, cap, by rw [hl], by omega, h4, fun hp => ?_⟩
  obtain ⟨g, o, e, hg, hc⟩ := h5 (by omega)
  refine ⟨g, o, e, hg, fun j hj => ?_⟩
  rw [hc j (by omega)]
  simp [List.getD_eq_getElem?_getD, List.getElem?_take, show j < q by omega]
theorem RdB.len {w : World} {A : Option Addr} {m cap : Nat} {xs : List Int} (h : RdB w (.slice A m cap) xs) : m = xs.length ∧ m ≤ cap ∧ cap ≤ 9223372036854775807 := by
  obtain ⟨h1, h2, A', c', e, h3, h4, h5⟩ := h
  injection e with e1 e2 e3
  subst e1 e2 e3
  exact ⟨rfl, h3, h4.1⟩
/-- A number is read, or not. -/
def NumQ (g : Nat) (w : World) (r : Ending) (w' : World) : Prop := ∃ y z xs a, r = .returned (.tuple #[.int .u32 y, .bool z]) ∧ Below g w w' ∧ Rd g xs a w' ∧ 0 ≤ a ∧ a ≤ 500
theorem numq_2 (g : Nat) (xs : List Int) (a : Int) (ha : 0 ≤ a ∧ a ≤ 100) (w : World) (h : Rd g xs a w) : Calls Try.prog 52 #[.pointer (some ⟨g, 0, none⟩), .int .i64 2] w (NumQ g w) := by
  match xs, h with
  | [], h => exact (number_no g [] a 2 (by omega) (by omega) (by simp) w h).mono fun r w' ⟨e, b, d⟩ => ⟨_, _, _, _, e, b, d, by omega, by omega⟩
  | [x], h => exact (number_no g [x] a 2 (by omega) (by omega) (by simp) w h).mono fun r w' ⟨e, b, d⟩ => ⟨_, _, _, _, e, b, d, by omega, by omega⟩
  | x :: y :: xs, h => exact (number_2 g x y xs a (by omega) w h).mono fun r w' ⟨e, b, d⟩ => ⟨_, _, _, _, e, b, d, by omega, by omega⟩
theorem numq_1 (g : Nat) (xs : List Int) (a : Int) (ha : 0 ≤ a ∧ a ≤ 500) (w : World) (h : Rd g xs a w) : Calls Try.prog 52 #[.pointer (some ⟨g, 0, none⟩), .int .i64 1] w fun r w' => ∃ y z, r = .returned (.tuple #[.int .u32 y, .bool z]) ∧ Below g w w' := by
  match xs, h with
  | [], h => exact (number_no g [] a 1 (by omega) (by omega) (by simp) w h).mono fun r w' ⟨e, b, d⟩ => ⟨_, _, e, b⟩
  | x :: xs, h => exact (number_1 g x xs a (by omega) w h).mono fun r w' ⟨e, b, d⟩ => ⟨_, _, e, b⟩
theorem drop_16 {xs : List Int} (h : 19 ≤ xs.length) : xs.drop 16 = xs.getD 16 0 :: xs.getD 17 0 :: xs.getD 18 0 :: xs.drop 19 := by
  have e (k : Nat) (hk : k < xs.length) : xs.drop k = xs.getD k 0 :: xs.drop (k + 1) := by
    rw [List.drop_eq_getElem_cons hk]; simp [List.getD_eq_getElem?_getD, List.getElem?_eq_getElem hk]
  rw [e 16 (by omega), e 17 (by omega), e 18 (by omega)]

/-- The cells that Parse lays at its start. -/
def PC (N : Nat) (a b c d e f : Bool) (w : World) : Prop :=
  (w.cell? ⟨N, 0, none⟩ = some (.bool a) ∧ w.cell? ⟨N, 1, none⟩ = some (.bool b) ∧ w.cell? ⟨N, 2, none⟩ = some (.bool c) ∧ w.cell? ⟨N, 3, none⟩ = some (.bool d) ∧ w.cell? ⟨N, 4, none⟩ = some (.bool e) ∧ w.cell? ⟨N, 5, none⟩ = some (.bool f)) ∧
  (w.cell? ⟨N + 1, 0, none⟩ = some (.int .i64 0) ∧ w.cell? ⟨N + 1, 1, none⟩ = some (.int .i64 0)) ∧
  (w.cell? ⟨N + 1 + 1, 0, none⟩ = some (.int .i64 0) ∧ w.cell? ⟨N + 1 + 1, 1, none⟩ = some (.int .i64 0) ∧ w.cell? ⟨N + 1 + 1, 2, none⟩ = some (.int .i64 0) ∧ w.cell? ⟨N + 1 + 1, 3, none⟩ = some (.slice none 0 0) ∧ w.cell? ⟨N + 1 + 1, 4, none⟩ = some (.int .i64 0)) ∧
  (∀ j, w.frozen? ⟨N + 1, j, none⟩ = false) ∧ (∀ j, w.frozen? ⟨N + 1 + 1, j, none⟩ = false)
theorem PC.below {N B : Nat} {a b c d e f : Bool} {w w' : World} (h : PC N a b c d e f w) (hb : Below B w w') (hN : N + 3 ≤ B) : PC N a b c d e f w' := by
  obtain ⟨⟨p0, p1, p2, p3, p4, p5⟩, ⟨q0, q1⟩, ⟨r0, r1, r2, r3, r4⟩, f1, f2⟩ := h
  have g : ∀ (b j : Nat) (v : Value), b < N + 3 → w.cell? ⟨b, j, none⟩ = some v → w'.cell? ⟨b, j, none⟩ = some v := fun b j v hB hc => by rw [hb.cell (by simp; omega)]; exact hc
  exact ⟨⟨g _ _ _ (by omega) p0, g _ _ _ (by omega) p1, g _ _ _ (by omega) p2, g _ _ _ (by omega) p3, g _ _ _ (by omega) p4, g _ _ _ (by omega) p5⟩, ⟨g _ _ _ (by omega) q0, g _ _ _ (by omega) q1⟩, ⟨g _ _ _ (by omega) r0, g _ _ _ (by omega) r1, g _ _ _ (by omega) r2, g _ _ _ (by omega) r3, g _ _ _ (by omega) r4⟩,
    fun j => by rw [hb.frozen (by simp; omega)]; exact f1 j, fun j => by rw [hb.frozen (by simp; omega)]; exact f2 j⟩
def pw (w : World) (a b c d e f : Bool) : World := ((w.alloc (.cells #[.bool a, .bool b, .bool c, .bool d, .bool e, .bool f] 23)).alloc (.cells #[.int .i64 0, .int .i64 0] 28)).alloc (.cells #[.int .i64 0, .int .i64 0, .int .i64 0, .slice none 0 0, .int .i64 0] 38)
theorem PC.start (w : World) (a b c d e f : Bool) : PC w.heap.size a b c d e f (pw w a b c d e f) := by
  unfold pw
  refine ⟨⟨?_, ?_, ?_, ?_, ?_, ?_⟩, ⟨?_, ?_⟩, ⟨?_, ?_, ?_, ?_, ?_⟩, fun j => ?_, fun j => ?_⟩
  iterate 6 (rw [World.cell?_alloc_past _ _ _ (by simp; omega), World.cell?_alloc_past _ _ _ (by simp), World.cell?_alloc_at _ _ _ _ rfl]; rfl)
  iterate 2 (rw [World.cell?_alloc_past _ _ _ (by simp), World.cell?_alloc_at _ _ _ _ (by simp)]; rfl)
  iterate 5 (rw [World.cell?_alloc_at _ _ _ _ (by simp)]; rfl)
  · rw [frozen?_alloc_cells, World.frozen?_alloc_at _ _ _ _ (by simp)]
  · rw [World.frozen?_alloc_at _ _ _ _ (by simp)]
theorem pw_size (w : World) (a b c d e f : Bool) : (pw w a b c d e f).heap.size = w.heap.size + 3 := by simp [pw]
theorem pw_below (w : World) (a b c d e f : Bool) : Below w.heap.size w (pw w a b c d e f) := below_alloc (below_alloc (below_alloc (Below.refl _ _) _) _) _

theorem cell_set_other {w : World} {p q : Addr} {u : Value} (h : q.block ≠ p.block) : (w.setCell p u).cell? q = w.cell? q := World.cell?_of_block (w := w) (Below.heap_setCell w p u q.block h)
/-- The world behind the stores of the two results. -/
def pset (N : Nat) (w : World) (n k a b c : Int) (D : Value) (e : Int) : World :=
  ((((((w.setCell ⟨N + 1, 0, none⟩ (.int .i64 n)).setCell ⟨N + 1, 1, none⟩ (.int .i64 k)).setCell ⟨N + 1 + 1, 0, none⟩ (.int .i64 a)).setCell ⟨N + 1 + 1, 1, none⟩ (.int .i64 b)).setCell ⟨N + 1 + 1, 2, none⟩ (.int .i64 c)).setCell ⟨N + 1 + 1, 3, none⟩ D).setCell ⟨N + 1 + 1, 4, none⟩ (.int .i64 e)
theorem pset_cell {N : Nat} {w : World} {n k a b c : Int} {D : Value} {e : Int} {q : Addr} (h1 : q.block ≠ N + 1) (h2 : q.block ≠ N + 1 + 1) : (pset N w n k a b c D e).cell? q = w.cell? q := by
  unfold pset
  iterate 5 rw [cell_set_other (by exact h2)]
  iterate 2 rw [cell_set_other (by exact h1)]
theorem pset_below {w W : World} {n k a b c : Int} {D : Value} {e : Int} (hb : Below w.heap.size w W) : Below w.heap.size w (pset w.heap.size W n k a b c D e) := by
  unfold pset
  exact ((((((hb.setCell (by simp) _).setCell (by simp) _).setCell (by simp; omega) _).setCell (by simp; omega) _).setCell (by simp; omega) _).setCell (by simp; omega) _).setCell (by simp; omega) _
theorem pset_size {N : Nat} {w : World} {n k a b c : Int} {D : Value} {e : Int} : (pset N w n k a b c D e).heap.size = w.heap.size := by simp [pset]
theorem pp_end {w W : World} {n k a b c e : Int} {ds : List Int} (A : Option Addr) (cp : Nat) (hb : Below w.heap.size w W) (hd : RdB W (.slice A ds.length cp) ds) (hA : ∀ g o, A = some ⟨g, o, none⟩ → w.heap.size + 3 ≤ g) :
    PP n k a b c e ds w (.returned (.tuple #[.agg #[.int .i64 n, .int .i64 k], .agg #[.int .i64 a, .int .i64 b, .int .i64 c, .slice A ds.length cp, .int .i64 e]])) (pset w.heap.size W n k a b c (.slice A ds.length cp) e) := by
  refine ⟨A, cp, rfl, ?_, pset_below hb⟩
  obtain ⟨h1, h2, A', c', e, h3, h4, h5⟩ := hd
  injection e with e1 e2 e3
  subst e1 e3
  refine ⟨h1, h2, A, cp, rfl, h3, h4, fun hp => ?_⟩
  obtain ⟨g, o, e, hg, hc⟩ := h5 hp
  have := hA g o e
  exact ⟨g, o, e, by rw [pset_size]; exact hg, fun j hj => by rw [pset_cell (by simp; omega) (by simp; omega)]; exact hc j hj⟩

end Go.Proofs.Ytdiiolbkjmhmdaa
