/- Small functions of the package option and of its reference, at the seat with the door. -/
import Derived.Test.YtagopeefobefnaaDoorOptB
import Derived.RegionTactic
import Derived.Deep.DeepCutAuto
import Derived.Deep.RegionHeld3
import Derived.BigQuiet
import Derived.Deep.QuietTactic
namespace Go.Proofs.YtagopeefobefnaaDoor
open Go.RowKit
set_option linter.unusedSimpArgs false
set_option linter.unusedVariables false

def bit (a b c d e f : Bool) : Nat → Bool
  | 0 => a | 1 => b | 2 => c | 3 => d | 4 => e | 5 => f | _ => false

theorem below_drewN {B : Nat} {w W : World} (h : Below B w W) (n : Nat) : Below B w (W.drewN n) := ⟨h.os, h.tape, h.output, h.size, h.block⟩
theorem rv_eq {x y : Value} {w : World} {r : Ending} {w' : World} (h : RV x w r w') (e : y = x) : RV y w r w' := e ▸ h
theorem rb_eq {x y : Bool} {w : World} {r : Ending} {w' : World} (h : RB x w r w') (e : y = x) : RB y w r w' := e ▸ h
theorem addr_ne {X Y i j : Nat} (h : X ≠ Y ∨ i ≠ j) : (⟨X, i, none⟩ : Addr) ≠ ⟨Y, j, none⟩ := by
  intro e
  injection e with e1 e2
  omega


theorem bit_cells (a b c d e f : Bool) (q : Nat → Bool) (j : Nat) (hj : j < 6) : (#[Value.bool a, .bool b, .bool c, .bool d, .bool e, .bool f] : Array Value)[j]? = some (.bool (if j < 0 then bit a b c d e f j && q j else bit a b c d e f j)) := by
  rw [if_neg (by omega)]
  match j, hj with
  | 0, _ => rfl
  | 1, _ => rfl
  | 2, _ => rfl
  | 3, _ => rfl
  | 4, _ => rfl
  | 5, _ => rfl
theorem bit_cells' (a b c d e f : Bool) (j : Nat) (hj : j < 6) : (#[Value.bool a, .bool b, .bool c, .bool d, .bool e, .bool f] : Array Value)[j]? = some (.bool (bit a b c d e f j)) := by
  have := bit_cells a b c d e f (fun _ => false) j hj
  rwa [if_neg (by omega)] at this
theorem cell_drew (w : World) (a : Addr) : w.drew.cell? a = w.cell? a := rfl
theorem frozen_drew (w : World) (a : Addr) : w.drew.frozen? a = w.frozen? a := rfl

/-- A row of six truth values in block g. -/
structure BoolRow (base : Nat) (p : Nat → Bool) (g : Nat) (w : World) : Prop where
  lo : base ≤ g
  hi : g < w.heap.size
  cs : ∀ j, j < 6 → w.cell? ⟨g, j, none⟩ = some (.bool (p j))
  fr : ∀ j, j < 6 → w.frozen? ⟨g, j, none⟩ = false
theorem BoolRow.below {base : Nat} {p : Nat → Bool} {g : Nat} {w w1 : World} (h : BoolRow base p g w) (hb : Below w.heap.size w w1) : BoolRow base p g w1 :=
  ⟨h.lo, Nat.lt_of_lt_of_le h.hi hb.size, fun j hj => by rw [hb.cell h.hi]; exact h.cs j hj, fun j hj => by rw [hb.frozen h.hi]; exact h.fr j hj⟩
def ListPost (p : Nat → Bool) (w : World) (r : Ending) (w' : World) : Prop := ∃ g, r = .returned (.slice (some ⟨g, 0, none⟩) 6 6) ∧ BoolRow w.heap.size p g w' ∧ Below w.heap.size w w'

set_option maxRecDepth 100000 in
theorem list_any (a b c d e f : Bool) (w : World) : Calls Tryd.prog 28 #[.agg #[.bool a, .bool b, .bool c, .bool d, .bool e, .bool f]] w (ListPost (bit a b c d e f) w) := by
  go_enter Tryd.func28, Tryd.ntmps28
  go_wp2
  go_ret
  refine ⟨w.heap.size + 1, rfl, ⟨by omega, by simp, fun j hj => ?_, fun j hj => ?_⟩, below_alloc (below_alloc (Below.refl _ _) _) _⟩
  · rw [World.cell?_alloc_at _ _ _ _ (by simp)]; exact bit_cells' _ _ _ _ _ _ _ hj
  · rw [World.frozen?_alloc_at _ _ _ _ (by simp)]

set_option maxRecDepth 100000 in
set_option maxHeartbeats 1000000 in
theorem of_any (g n c : Nat) (x0 x1 x2 x3 x4 x5 : Bool) (w : World) (hn : 6 ≤ n) (hg : g < w.heap.size)
    (h0 : w.cell? ⟨g, 0, none⟩ = some (.bool x0)) (h1 : w.cell? ⟨g, 1, none⟩ = some (.bool x1)) (h2 : w.cell? ⟨g, 2, none⟩ = some (.bool x2)) (h3 : w.cell? ⟨g, 3, none⟩ = some (.bool x3)) (h4 : w.cell? ⟨g, 4, none⟩ = some (.bool x4)) (h5 : w.cell? ⟨g, 5, none⟩ = some (.bool x5)) :
    Calls Tryd.prog 22 #[.slice (some ⟨g, 0, none⟩) n c] w (RV (.agg #[.bool x0, .bool x1, .bool x2, .bool x3, .bool x4, .bool x5]) w) := by
  have n0 : 0 < n := by omega
  have n1 : (1 : Int) < n := by omega
  have n2 : (2 : Int) < n := by omega
  have n3 : (3 : Int) < n := by omega
  have n4 : (4 : Int) < n := by omega
  have n5 : (5 : Int) < n := by omega
  have hne : ¬ w.heap.size = g := by omega
  go_enter Tryd.func22, Tryd.ntmps22
  go_wp2_with fail
  go_region_held3 (fun w' => w'.cell? ⟨g, 0, none⟩ = some (.bool x0) ∧ w'.cell? ⟨g, 1, none⟩ = some (.bool x1) ∧ w'.cell? ⟨g, 2, none⟩ = some (.bool x2) ∧ w'.cell? ⟨g, 3, none⟩ = some (.bool x3) ∧ w'.cell? ⟨g, 4, none⟩ = some (.bool x4) ∧ w'.cell? ⟨g, 5, none⟩ = some (.bool x5)) (go_keep) (fail)
  all_goals go_wp2_with fail
  all_goals exact bodyPost_ret (v := .agg #[.bool x0, .bool x1, .bool x2, .bool x3, .bool x4, .bool x5]) (by simp [results, Tryd.results22, go_sem]) rfl ⟨rfl, (below_alloc (Below.refl _ _) _).drew⟩

/-- x (anded up to k) and y, two rows of the call's own. -/
structure TwoRows (w : World) (X Y : Nat) (p q : Nat → Bool) (k : Nat) (wr : World) : Prop where
  bel : Below w.heap.size w wr
  ne : X ≠ Y
  x : BoolRow (w.heap.size + 3) (fun j => if j < k then p j && q j else p j) X wr

set_option maxRecDepth 100000 in
theorem valid_any (a b c d e f : Bool) (w : World) : Calls Tryd.prog 16 #[.agg #[.bool a, .bool b, .bool c, .bool d, .bool e, .bool f]] w (RB (d || !f) w) := by
  cases d <;> cases f
  all_goals
    go_enter Tryd.func16, Tryd.ntmps16
    go_wp2
    go_ret
    exact ⟨rfl, (Below.refl _ _).alloc (Nat.le_refl _) _⟩

set_option maxRecDepth 100000 in
theorem refvalid_any (a b c d e f : Bool) (w : World) : Calls Tryd.prog 17 #[.agg #[.bool a, .bool b, .bool c, .bool d, .bool e, .bool f]] w (RB (d || !f) w) := by
  cases d <;> cases f
  all_goals
    go_enter Tryd.func17, Tryd.ntmps17
    go_wp2
    go_ret
    exact ⟨rfl, (Below.refl _ _).alloc (Nat.le_refl _) _⟩

set_option maxRecDepth 100000 in
set_option maxHeartbeats 1000000 in
theorem alive_any (w : World) : Calls Tryd.prog 6 #[] w (RB true w) := by
  have h1 : ((text true false false true false false).toList == [97, 115, 52, 32, 109, 112, 54]) = true := by kernel_rfl
  have h2 : ((text false false false false false false).toList == [45]) = true := by kernel_rfl
  have t1 := Lib.hid (text_any true false false true false false)
  have t2 := Lib.hid (text_any false false false false false false)
  generalize text true false false true false false = s1 at h1 t1
  generalize text false false false false false false = s2 at h2 t2
  go_enter Tryd.func6, Tryd.ntmps6
  go_wp2_with fail
  refine (t1.out _).mono ?_
  rintro r w1 ⟨rfl, hb1⟩
  have H1 := Lib.hid hb1
  clear hb1
  go_wp2_with fail
  refine (t2.out _).mono ?_
  rintro r w2 ⟨rfl, hb2⟩
  have H2 := Lib.hid hb2
  clear hb2
  go_wp2_with fail
  go_ret
  exact ⟨rfl, below_then' H1.out H2.out⟩


end Go.Proofs.YtagopeefobefnaaDoor
