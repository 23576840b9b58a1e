/- The reference's lists of truth values: list, of, Both. -/
import Derived.Test.YtagopeefobefnaaOptC
import Derived.Deep.RegionHeld3
namespace Go.Proofs.Ytagopeefobefnaa
open Go.RowKit
set_option linter.unusedSimpArgs false

/-- A row of six truth values in block g. -/
structure BoolRow (base : Nat) (p : Nat → Bool) (g : Nat) (w : World) : Prop where
  lo : base ≤ g
  hi : g < w.heap.size
  cs : ∀ j, j < 6 → w.cell? ⟨g, j, none⟩ = some (.bool (p j))
  fr : ∀ j, j < 6 → w.frozen? ⟨g, j, none⟩ = false
theorem BoolRow.below {base : Nat} {p : Nat → Bool} {g : Nat} {w w1 : World} (h : BoolRow base p g w) (hb : Below w.heap.size w w1) : BoolRow base p g w1 :=
  ⟨h.lo, Nat.lt_of_lt_of_le h.hi hb.size, fun j hj => by rw [hb.cell h.hi]; exact h.cs j hj, fun j hj => by rw [hb.frozen h.hi]; exact h.fr j hj⟩
def ListPost (p : Nat → Bool) (w : World) (r : Ending) (w' : World) : Prop := ∃ g, r = .returned (.slice (some ⟨g, 0, none⟩) 6 6) ∧ BoolRow w.heap.size p g w' ∧ Below w.heap.size w w'

set_option maxRecDepth 100000 in
theorem list_any (a b c d e f : Bool) (w : World) : Calls Try.prog 20 #[.agg #[.bool a, .bool b, .bool c, .bool d, .bool e, .bool f]] w (ListPost (bit a b c d e f) w) := by
  go_enter Try.func20, Try.ntmps20
  go_wp2
  go_ret
  refine ⟨w.heap.size + 1, rfl, ⟨by omega, by simp, fun j hj => ?_, fun j hj => ?_⟩, below_alloc (below_alloc (Below.refl _ _) _) _⟩
  · rw [World.cell?_alloc_at _ _ _ _ (by simp)]; exact bit_cells' _ _ _ _ _ _ _ hj
  · rw [World.frozen?_alloc_at _ _ _ _ (by simp)]

set_option maxRecDepth 100000 in
set_option maxHeartbeats 1000000 in
theorem of_any (g n c : Nat) (x0 x1 x2 x3 x4 x5 : Bool) (w : World) (hn : 6 ≤ n) (hg : g < w.heap.size)
    (h0 : w.cell? ⟨g, 0, none⟩ = some (.bool x0)) (h1 : w.cell? ⟨g, 1, none⟩ = some (.bool x1)) (h2 : w.cell? ⟨g, 2, none⟩ = some (.bool x2)) (h3 : w.cell? ⟨g, 3, none⟩ = some (.bool x3)) (h4 : w.cell? ⟨g, 4, none⟩ = some (.bool x4)) (h5 : w.cell? ⟨g, 5, none⟩ = some (.bool x5)) :
    Calls Try.prog 21 #[.slice (some ⟨g, 0, none⟩) n c] w (RV (.agg #[.bool x0, .bool x1, .bool x2, .bool x3, .bool x4, .bool x5]) w) := by
  have n0 : 0 < n := by omega
  have n1 : (1 : Int) < n := by omega
  have n2 : (2 : Int) < n := by omega
  have n3 : (3 : Int) < n := by omega
  have n4 : (4 : Int) < n := by omega
  have n5 : (5 : Int) < n := by omega
  have hne : ¬ w.heap.size = g := by omega
  go_enter Try.func21, Try.ntmps21
  go_wp2_with fail
  go_region_held3 (fun w' => w'.cell? ⟨g, 0, none⟩ = some (.bool x0) ∧ w'.cell? ⟨g, 1, none⟩ = some (.bool x1) ∧ w'.cell? ⟨g, 2, none⟩ = some (.bool x2) ∧ w'.cell? ⟨g, 3, none⟩ = some (.bool x3) ∧ w'.cell? ⟨g, 4, none⟩ = some (.bool x4) ∧ w'.cell? ⟨g, 5, none⟩ = some (.bool x5)) (go_keep) (fail)
  all_goals go_wp2_with fail
  all_goals exact bodyPost_ret (v := .agg #[.bool x0, .bool x1, .bool x2, .bool x3, .bool x4, .bool x5]) (by simp [results, Try.results21, go_sem]) rfl ⟨rfl, (below_alloc (Below.refl _ _) _).drew⟩

/-- x (anded up to k) and y, two rows of the call's own. -/
structure TwoRows (w : World) (X Y : Nat) (p q : Nat → Bool) (k : Nat) (wr : World) : Prop where
  bel : Below w.heap.size w wr
  ne : X ≠ Y
  x : BoolRow (w.heap.size + 3) (fun j => if j < k then p j && q j else p j) X wr
  y : BoolRow (w.heap.size + 3) q Y wr
  res : wr.heap[w.heap.size + 2]? = some (.cells #[.bool false, .bool false, .bool false, .bool false, .bool false, .bool false] 23 (0, 0))
theorem TwoRows.below {w : World} {X Y : Nat} {p q : Nat → Bool} {k : Nat} {wr w1 : World} (h : TwoRows w X Y p q k wr) (hb : Below wr.heap.size wr w1) : TwoRows w X Y p q k w1 :=
  ⟨below_then h.bel h.bel.size hb, h.ne, h.x.below hb, h.y.below hb, by rw [hb.block _ (by have := h.x.lo; have := h.x.hi; omega)]; exact h.res⟩
theorem TwoRows.set {w : World} {X Y : Nat} {p q : Nat → Bool} {k : Nat} {wr : World} (h : TwoRows w X Y p q k wr) (hk : k < 6) : TwoRows w X Y p q (k + 1) (wr.setCell ⟨X, k, none⟩ (.bool (p k && q k))) where
  bel := h.bel.setCell (by have := h.x.lo; simp; omega) _
  ne := h.ne
  x := ⟨h.x.lo, by simpa [World.setCell] using h.x.hi, fun j hj => by
    by_cases e : j = k
    · subst e
      rw [World.cell?_setCell_same _ _ _ (h.x.cs j hj)]; simp
    · rw [World.cell?_setCell_other _ _ _ _ (addr_ne (.inr (fun h => e h.symm))), h.x.cs j hj]
      by_cases e1 : j < k
      · simp [e1, show j < k + 1 by omega]
      · simp [e1, show ¬ j < k + 1 by omega], fun j hj => by simpa using h.x.fr j hj⟩
  y := ⟨h.y.lo, by simpa [World.setCell] using h.y.hi, fun j hj => by rw [World.cell?_setCell_other _ _ _ _ (addr_ne (.inl h.ne))]; exact h.y.cs j hj, fun j hj => by simpa using h.y.fr j hj⟩
  res := by rw [Below.heap_setCell _ _ _ _ (by have := h.x.lo; simp; omega)]; exact h.res

theorem two_end {a b c d e f a' b' c' d' e' f' : Bool} {w : World} {X Y : Nat} {wr : World} (h : TwoRows w X Y (bit a b c d e f) (bit a' b' c' d' e' f') 6 wr) (y : Bool) :
    Calls Try.prog 21 #[.slice (some ⟨X, 0, none⟩) 6 6] (wr.setCell ⟨X, 5, none⟩ (.bool y)) (RV (.agg #[.bool (a && a'), .bool (b && b'), .bool (c && c'), .bool (d && d'), .bool (e && e'), .bool y]) (wr.setCell ⟨X, 5, none⟩ (.bool y))) := by
  have o : ∀ j, j < 5 → (wr.setCell ⟨X, 5, none⟩ (.bool y)).cell? ⟨X, j, none⟩ = some (.bool (if j < 6 then bit a b c d e f j && bit a' b' c' d' e' f' j else bit a b c d e f j)) := fun j hj => by
    rw [World.cell?_setCell_other _ _ _ _ (addr_ne (.inr (by omega))), h.x.cs j (by omega)]
  refine of_any X 6 6 _ _ _ _ _ _ _ (by omega) (by simpa [World.setCell] using h.x.hi) (o 0 (by omega)) (o 1 (by omega)) (o 2 (by omega)) (o 3 (by omega)) (o 4 (by omega)) ?_
  rw [World.cell?_setCell_same _ _ _ (h.x.cs 5 (by omega))]

/-- What is known of the result's block when 'of' has returned. -/
theorem two_res {a b c d e f a' b' c' d' e' f' : Bool} {w : World} {X Y : Nat} {wr w3 : World} (h : TwoRows w X Y (bit a b c d e f) (bit a' b' c' d' e' f') 6 wr) (y : Bool) (hb : Below (wr.setCell ⟨X, 5, none⟩ (.bool y)).heap.size (wr.setCell ⟨X, 5, none⟩ (.bool y)) w3) :
    (∀ j, j < 6 → w3.cell? ⟨w.heap.size + 1 + 1, j, none⟩ = some (.bool false)) ∧ (∀ j, w3.frozen? ⟨w.heap.size + 1 + 1, j, none⟩ = false) ∧ Below w.heap.size w w3 := by
  have e : w3.heap[w.heap.size + 1 + 1]? = some (.cells #[.bool false, .bool false, .bool false, .bool false, .bool false, .bool false] 23 (0, 0)) := by
    rw [hb.block _ (by have := h.x.lo; have := h.x.hi; simp [World.setCell]; omega), Below.heap_setCell _ _ _ _ (by have := h.x.lo; simp; omega)]
    exact h.res
  refine ⟨fun j hj => ?_, fun j => ?_, ?_⟩
  · simp only [World.cell?, e]
    match j, hj with
    | 0, _ => rfl
    | 1, _ => rfl
    | 2, _ => rfl
    | 3, _ => rfl
    | 4, _ => rfl
    | 5, _ => rfl
  · simp [World.frozen?, e]
  · exact below_then (h.bel.setCell (by have := h.x.lo; simp; omega) _) (by have := h.bel.size; simp [World.setCell]; omega) hb

set_option maxHeartbeats 1000000 in
set_option maxRecDepth 100000 in
theorem refboth_any (a b c d e f a' b' c' d' e' f' : Bool) (w : World) :
    Calls Try.prog 7 #[.agg #[.bool a, .bool b, .bool c, .bool d, .bool e, .bool f], .agg #[.bool a', .bool b', .bool c', .bool d', .bool e', .bool f']] w (RV (.agg #[.bool (a && a'), .bool (b && b'), .bool (c && c'), .bool (d && d'), .bool (e && e'), .bool (f && f' && (d && d'))]) w) := by
  go_enter Try.func7, Try.ntmps7
  go_wp2_with fail
  refine (list_any a b c d e f _).mono ?_
  rintro r w1 ⟨X, rfl, hx1, hb1⟩
  have hsz1 : w.heap.size + 3 ≤ w1.heap.size := by have := hb1.size; simp at this; omega
  have hy0 : ∀ j v, #[Value.bool a', .bool b', .bool c', .bool d', .bool e', .bool f'][j]? = some v → w1.cell? ⟨w.heap.size + 1, j, none⟩ = some v := fun j v hj => by
    rw [hb1.cell (by simp), World.cell?_alloc_past _ _ _ (by simp), World.cell?_alloc_at _ _ _ _ (by simp)]; simpa using hj
  have y0 := hy0 0 _ rfl
  have y1 := hy0 1 _ rfl
  have y2 := hy0 2 _ rfl
  have y3 := hy0 3 _ rfl
  have y4 := hy0 4 _ rfl
  have y5 := hy0 5 _ rfl
  have HX := Lib.hid hx1
  have HB := Lib.hid hb1
  clear hx1 hb1 hy0
  go_wp2_with fail
  refine (list_any a' b' c' d' e' f' _).mono ?_
  rintro r w2 ⟨Y, rfl, hy2, hb2⟩
  have hr2 : TwoRows w X Y (bit a b c d e f) (bit a' b' c' d' e' f') 0 w2 := by
    refine ⟨?_, ?_, ?_, ?_, ?_⟩
    · exact below_then ((below_alloc (below_alloc (below_alloc (Below.refl _ _) _) _) _).trans (HB.out.mono (by simp; omega))) (by omega) hb2
    · have := HX.out.hi; have := hy2.lo; omega
    · have h := HX.out.below hb2
      exact ⟨by have := h.lo; simpa using this, h.hi, fun j hj => by rw [h.cs j hj]; simp, h.fr⟩
    · exact ⟨by have := hy2.lo; omega, hy2.hi, hy2.cs, hy2.fr⟩
    · rw [hb2.block _ (by omega), HB.out.block _ (by simp)]
      show (((w.heap.push _).push _).push _)[w.heap.size + 2]? = _
      simp only [Array.getElem?_push, Array.size_push]
      rw [if_pos trivial]
  clear HX HB hy2 hb2 y0 y1 y2 y3 y4 y5 hsz1
  have HR2 := Lib.hid hr2
  clear hr2
  go_wp2_with fail
  go_loopw [7] (fun i wr => ∃ k : Nat, k ≤ 6 ∧ i = .int .i64 k ∧ TwoRows w X Y (bit a b c d e f) (bit a' b' c' d' e' f') k wr) (fun i _ => 6 - (intOf i).toNat)
  case atStart => exact ⟨0, by omega, rfl, HR2.out⟩
  case round =>
    obtain ⟨k, hk, rfl, hr⟩ := hrel
    clear HR2
    match k, hk with
    | 0, _ =>
      have hcx : wr.cell? ⟨X, 0, none⟩ = some (.bool a) := hr.x.cs 0 (by omega)
      have hcy : wr.cell? ⟨Y, 0, none⟩ = some (.bool a') := hr.y.cs 0 (by omega)
      have hfx : wr.frozen? ⟨X, 0, none⟩ = false := hr.x.fr 0 (by omega)
      have HR := Lib.hid (hr.set (k := 0) (by omega))
      clear hr
      cases a <;> cases a'
      all_goals
        go_wp2_with fail
        go_roundw
        case rel => exact ⟨1, by omega, rfl, HR.out⟩
        case measure => simp [intOf]
    | 1, _ =>
      have hcx : wr.cell? ⟨X, 1, none⟩ = some (.bool b) := hr.x.cs 1 (by omega)
      have hcy : wr.cell? ⟨Y, 1, none⟩ = some (.bool b') := hr.y.cs 1 (by omega)
      have hfx : wr.frozen? ⟨X, 1, none⟩ = false := hr.x.fr 1 (by omega)
      have HR := Lib.hid (hr.set (k := 1) (by omega))
      clear hr
      cases b <;> cases b'
      all_goals
        go_wp2_with fail
        go_roundw
        case rel => exact ⟨2, by omega, rfl, HR.out⟩
        case measure => simp [intOf]
    | 2, _ =>
      have hcx : wr.cell? ⟨X, 2, none⟩ = some (.bool c) := hr.x.cs 2 (by omega)
      have hcy : wr.cell? ⟨Y, 2, none⟩ = some (.bool c') := hr.y.cs 2 (by omega)
      have hfx : wr.frozen? ⟨X, 2, none⟩ = false := hr.x.fr 2 (by omega)
      have HR := Lib.hid (hr.set (k := 2) (by omega))
      clear hr
      cases c <;> cases c'
      all_goals
        go_wp2_with fail
        go_roundw
        case rel => exact ⟨3, by omega, rfl, HR.out⟩
        case measure => simp [intOf]
    | 3, _ =>
      have hcx : wr.cell? ⟨X, 3, none⟩ = some (.bool d) := hr.x.cs 3 (by omega)
      have hcy : wr.cell? ⟨Y, 3, none⟩ = some (.bool d') := hr.y.cs 3 (by omega)
      have hfx : wr.frozen? ⟨X, 3, none⟩ = false := hr.x.fr 3 (by omega)
      have HR := Lib.hid (hr.set (k := 3) (by omega))
      clear hr
      cases d <;> cases d'
      all_goals
        go_wp2_with fail
        go_roundw
        case rel => exact ⟨4, by omega, rfl, HR.out⟩
        case measure => simp [intOf]
    | 4, _ =>
      have hcx : wr.cell? ⟨X, 4, none⟩ = some (.bool e) := hr.x.cs 4 (by omega)
      have hcy : wr.cell? ⟨Y, 4, none⟩ = some (.bool e') := hr.y.cs 4 (by omega)
      have hfx : wr.frozen? ⟨X, 4, none⟩ = false := hr.x.fr 4 (by omega)
      have HR := Lib.hid (hr.set (k := 4) (by omega))
      clear hr
      cases e <;> cases e'
      all_goals
        go_wp2_with fail
        go_roundw
        case rel => exact ⟨5, by omega, rfl, HR.out⟩
        case measure => simp [intOf]
    | 5, _ =>
      have hcx : wr.cell? ⟨X, 5, none⟩ = some (.bool f) := hr.x.cs 5 (by omega)
      have hcy : wr.cell? ⟨Y, 5, none⟩ = some (.bool f') := hr.y.cs 5 (by omega)
      have hfx : wr.frozen? ⟨X, 5, none⟩ = false := hr.x.fr 5 (by omega)
      have HR := Lib.hid (hr.set (k := 5) (by omega))
      clear hr
      cases f <;> cases f'
      all_goals
        go_wp2_with fail
        go_roundw
        case rel => exact ⟨6, by omega, rfl, HR.out⟩
        case measure => simp [intOf]
    | 6, _ =>
      have x0 : wr.cell? ⟨X, 0, none⟩ = some (.bool (a && a')) := hr.x.cs 0 (by omega)
      have x1 : wr.cell? ⟨X, 1, none⟩ = some (.bool (b && b')) := hr.x.cs 1 (by omega)
      have x2 : wr.cell? ⟨X, 2, none⟩ = some (.bool (c && c')) := hr.x.cs 2 (by omega)
      have x3 : wr.cell? ⟨X, 3, none⟩ = some (.bool (d && d')) := hr.x.cs 3 (by omega)
      have x4 : wr.cell? ⟨X, 4, none⟩ = some (.bool (e && e')) := hr.x.cs 4 (by omega)
      have x5 : wr.cell? ⟨X, 5, none⟩ = some (.bool (f && f')) := hr.x.cs 5 (by omega)
      have f5 : wr.frozen? ⟨X, 5, none⟩ = false := hr.x.fr 5 (by omega)
      have HR := Lib.hid hr
      clear hr
      obtain ⟨z, hz⟩ : ∃ z, z = (f && f') := ⟨_, rfl⟩
      rw [← hz] at x5
      have HZ := Lib.hid hz
      clear hz
      cases z
      · go_wp2_with fail
        refine (two_end HR.out false).mono ?_
        rintro r w3 ⟨rfl, hb3⟩
        obtain ⟨q1, q2, q3⟩ := two_res HR.out false hb3
        have r0 := q1 0 (by omega)
        have r1 := q1 1 (by omega)
        have r2 := q1 2 (by omega)
        have r3 := q1 3 (by omega)
        have r4 := q1 4 (by omega)
        have r5 := q1 5 (by omega)
        have HB3 := Lib.hid q3
        clear hb3 q1 q3 x0 x1 x2 x3 x4 x5 f5
        go_wp2_with fail
        refine bodyPost_ret (v := .agg #[.bool (a && a'), .bool (b && b'), .bool (c && c'), .bool (d && d'), .bool (e && e'), .bool false]) (by simp [results, Try.results7, go_sem, r0, r1, r2, r3, r4, r5]) rfl ⟨by rw [← HZ.out]; rfl, ?_⟩
        exact (((((HB3.out.setCell (by simp; omega) _).setCell (by simp; omega) _).setCell (by simp; omega) _).setCell (by simp; omega) _).setCell (by simp; omega) _).setCell (by simp; omega) _
      · go_wp2_with fail
        refine (two_end HR.out (d && d')).mono ?_
        rintro r w3 ⟨rfl, hb3⟩
        obtain ⟨q1, q2, q3⟩ := two_res HR.out (d && d') hb3
        have r0 := q1 0 (by omega)
        have r1 := q1 1 (by omega)
        have r2 := q1 2 (by omega)
        have r3 := q1 3 (by omega)
        have r4 := q1 4 (by omega)
        have r5 := q1 5 (by omega)
        have HB3 := Lib.hid q3
        clear hb3 q1 q3 x0 x1 x2 x3 x4 x5 f5
        go_wp2_with fail
        refine bodyPost_ret (v := .agg #[.bool (a && a'), .bool (b && b'), .bool (c && c'), .bool (d && d'), .bool (e && e'), .bool (d && d')]) (by simp [results, Try.results7, go_sem, r0, r1, r2, r3, r4, r5]) rfl ⟨by rw [← HZ.out]; rfl, ?_⟩
        exact (((((HB3.out.setCell (by simp; omega) _).setCell (by simp; omega) _).setCell (by simp; omega) _).setCell (by simp; omega) _).setCell (by simp; omega) _).setCell (by simp; omega) _
    | k + 7, hk => exact absurd hk (by omega)

end Go.Proofs.Ytagopeefobefnaa
