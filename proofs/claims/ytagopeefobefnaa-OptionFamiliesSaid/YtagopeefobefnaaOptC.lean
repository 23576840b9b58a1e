/- option.Both: the options that two records have, in whatever memory and in either order of the two boxes. -/
import Derived.Test.YtagopeefobefnaaOptA
import Derived.RegionTactic
import Derived.Deep.DeepCutAuto
namespace Go.Proofs.Ytagopeefobefnaa
open Go.RowKit
set_option linter.unusedSimpArgs false

def bit (a b c d e f : Bool) : Nat → Bool
  | 0 => a | 1 => b | 2 => c | 3 => d | 4 => e | 5 => f | _ => false

/-- The records x (at block X, anded up to k) and y (at block Y), and the result's block, untouched. -/
structure BothAt (w : World) (X Y : Nat) (p q : Nat → Bool) (k : Nat) (wr : World) : Prop where
  bel : Below w.heap.size w wr
  ne : X ≠ Y
  loX : w.heap.size + 3 ≤ X
  loY : w.heap.size + 3 ≤ Y
  hiX : X < wr.heap.size
  hiY : Y < wr.heap.size
  cx : ∀ j, j < 6 → wr.cell? ⟨X, j, none⟩ = some (.bool (if j < k then p j && q j else p j))
  cy : ∀ j, j < 6 → wr.cell? ⟨Y, j, none⟩ = some (.bool (q j))
  fx : ∀ j, j < 6 → wr.frozen? ⟨X, j, none⟩ = false
  res : wr.heap[w.heap.size + 2]? = some (.cells #[.bool false, .bool false, .bool false, .bool false, .bool false, .bool false] 23 (0, 0))

theorem BothAt.below {w : World} {X Y : Nat} {p q : Nat → Bool} {k : Nat} {wr w1 : World} (h : BothAt w X Y p q k wr) (hb : Below wr.heap.size wr w1) : BothAt w X Y p q k w1 where
  bel := below_then h.bel h.bel.size hb
  ne := h.ne
  loX := h.loX
  loY := h.loY
  hiX := Nat.lt_of_lt_of_le h.hiX hb.size
  hiY := Nat.lt_of_lt_of_le h.hiY hb.size
  cx := fun j hj => by rw [hb.cell h.hiX]; exact h.cx j hj
  cy := fun j hj => by rw [hb.cell h.hiY]; exact h.cy j hj
  fx := fun j hj => by rw [hb.frozen h.hiX]; exact h.fx j hj
  res := by rw [hb.block _ (by have := h.loX; have := h.hiX; omega)]; exact h.res

theorem BothAt.no {w : World} {X Y : Nat} {p q : Nat → Bool} {k : Nat} {wr : World} (h : BothAt w X Y p q k wr) (hq : q k = true) : BothAt w X Y p q (k + 1) wr :=
  ⟨h.bel, h.ne, h.loX, h.loY, h.hiX, h.hiY, fun j hj => by
    rw [h.cx j hj]
    by_cases e : j = k
    · subst e; simp [hq]
    · by_cases e1 : j < k
      · rw [if_pos e1, if_pos (by omega)]
      · rw [if_neg e1, if_neg (by omega)], h.cy, h.fx, h.res⟩

theorem addr_ne {X Y i j : Nat} (h : X ≠ Y ∨ i ≠ j) : (⟨X, i, none⟩ : Addr) ≠ ⟨Y, j, none⟩ := by
  intro e
  injection e with e1 e2
  omega

theorem BothAt.set {w : World} {X Y : Nat} {p q : Nat → Bool} {k : Nat} {wr : World} (h : BothAt w X Y p q k wr) (hk : k < 6) (hq : q k = false) : BothAt w X Y p q (k + 1) (wr.setCell ⟨X, k, none⟩ (.bool false)) where
  bel := h.bel.setCell (by have := h.loX; simp; omega) _
  ne := h.ne
  loX := h.loX
  loY := h.loY
  hiX := by simpa [World.setCell] using h.hiX
  hiY := by simpa [World.setCell] using h.hiY
  cx := fun j hj => by
    by_cases e : j = k
    · subst e
      rw [World.cell?_setCell_same _ _ _ (h.cx j hj)]; simp [hq]
    · rw [World.cell?_setCell_other _ _ _ _ (addr_ne (.inr (fun h => e h.symm))), h.cx j hj]
      by_cases e1 : j < k
      · rw [if_pos e1, if_pos (by omega)]
      · rw [if_neg e1, if_neg (by omega)]
  cy := fun j hj => by rw [World.cell?_setCell_other _ _ _ _ (addr_ne (.inl h.ne))]; exact h.cy j hj
  fx := fun j hj => by simpa using h.fx j hj
  res := by rw [Below.heap_setCell _ _ _ _ (by have := h.loX; simp; omega)]; exact h.res

theorem bit_cells (a b c d e f : Bool) (q : Nat → Bool) (j : Nat) (hj : j < 6) : (#[Value.bool a, .bool b, .bool c, .bool d, .bool e, .bool f] : Array Value)[j]? = some (.bool (if j < 0 then bit a b c d e f j && q j else bit a b c d e f j)) := by
  rw [if_neg (by omega)]
  match j, hj with
  | 0, _ => rfl
  | 1, _ => rfl
  | 2, _ => rfl
  | 3, _ => rfl
  | 4, _ => rfl
  | 5, _ => rfl
theorem bit_cells' (a b c d e f : Bool) (j : Nat) (hj : j < 6) : (#[Value.bool a, .bool b, .bool c, .bool d, .bool e, .bool f] : Array Value)[j]? = some (.bool (bit a b c d e f j)) := by
  have := bit_cells a b c d e f (fun _ => false) j hj
  rwa [if_neg (by omega)] at this
theorem cell_drew (w : World) (a : Addr) : w.drew.cell? a = w.cell? a := rfl
theorem frozen_drew (w : World) (a : Addr) : w.drew.frozen? a = w.frozen? a := rfl

theorem both_start (a b c d e f a' b' c' d' e' f' : Bool) (w : World) (o0 o1 : Obj) :
    BothAt w (w.heap.size + 1 + 1 + 1) (w.heap.size + 1 + 1 + 1 + 1) (bit a b c d e f) (bit a' b' c' d' e' f') 0
      (((((w.alloc o0).alloc o1).alloc (.cells #[.bool false, .bool false, .bool false, .bool false, .bool false, .bool false] 23)).alloc (.cells #[.bool a, .bool b, .bool c, .bool d, .bool e, .bool f] 35)).alloc (.cells #[.bool a', .bool b', .bool c', .bool d', .bool e', .bool f'] 35)).drew where
  bel := (below_alloc (below_alloc (below_alloc (below_alloc (below_alloc (Below.refl _ _) _) _) _) _) _).drew
  ne := by omega
  loX := by omega
  loY := by omega
  hiX := by simp
  hiY := by simp
  cx := fun j hj => by rw [cell_drew, World.cell?_alloc_past _ _ _ (by simp), World.cell?_alloc_at _ _ _ _ (by simp)]; exact bit_cells _ _ _ _ _ _ _ _ hj
  cy := fun j hj => by rw [cell_drew, World.cell?_alloc_at _ _ _ _ (by simp)]; exact bit_cells' _ _ _ _ _ _ _ hj
  fx := fun j hj => by rw [frozen_drew, World.frozen?_alloc_past _ _ _ (by simp), World.frozen?_alloc_at _ _ _ _ (by simp)]
  res := by
    show (((((w.heap.push o0).push o1).push _).push _).push _)[w.heap.size + 2]? = _
    simp only [Array.getElem?_push, Array.size_push]
    rw [if_neg (by omega), if_neg (by omega), if_pos trivial]
theorem both_start' (a b c d e f a' b' c' d' e' f' : Bool) (w : World) (o0 o1 : Obj) :
    BothAt w (w.heap.size + 1 + 1 + 1 + 1) (w.heap.size + 1 + 1 + 1) (bit a b c d e f) (bit a' b' c' d' e' f') 0
      (((((w.alloc o0).alloc o1).alloc (.cells #[.bool false, .bool false, .bool false, .bool false, .bool false, .bool false] 23)).alloc (.cells #[.bool a', .bool b', .bool c', .bool d', .bool e', .bool f'] 35)).alloc (.cells #[.bool a, .bool b, .bool c, .bool d, .bool e, .bool f] 35)).drew where
  bel := (below_alloc (below_alloc (below_alloc (below_alloc (below_alloc (Below.refl _ _) _) _) _) _) _).drew
  ne := by omega
  loX := by omega
  loY := by omega
  hiX := by simp
  hiY := by simp
  cy := fun j hj => by rw [cell_drew, World.cell?_alloc_past _ _ _ (by simp), World.cell?_alloc_at _ _ _ _ (by simp)]; exact bit_cells' _ _ _ _ _ _ _ hj
  cx := fun j hj => by rw [cell_drew, World.cell?_alloc_at _ _ _ _ (by simp)]; exact bit_cells _ _ _ _ _ _ _ _ hj
  fx := fun j hj => by rw [frozen_drew, World.frozen?_alloc_at _ _ _ _ (by simp)]
  res := by
    show (((((w.heap.push o0).push o1).push _).push _).push _)[w.heap.size + 2]? = _
    simp only [Array.getElem?_push, Array.size_push]
    rw [if_neg (by omega), if_neg (by omega), if_pos trivial]

set_option maxHeartbeats 1000000 in
set_option maxRecDepth 100000 in
theorem both_any (a b c d e f a' b' c' d' e' f' : Bool) (w : World) :
    Calls Try.prog 5 #[.agg #[.bool a, .bool b, .bool c, .bool d, .bool e, .bool f], .agg #[.bool a', .bool b', .bool c', .bool d', .bool e', .bool f']] w (RV (.agg #[.bool (a && a'), .bool (b && b'), .bool (c && c'), .bool (d && d'), .bool (e && e'), .bool (f && f' && (d && d'))]) w) := by
  go_enter Try.func5, Try.ntmps5
  go_upto_region 1 with fail
  go_cut [5, 6] (fun s5 s6 wx => ∃ X Y, s5 = .pointer (some ⟨X, 0, none⟩) ∧ s6 = .pointer (some ⟨Y, 0, none⟩) ∧ BothAt w X Y (bit a b c d e f) (bit a' b' c' d' e' f') 0 wx)
  case first =>
    go_region
    all_goals (go_wp2_with fail; go_meet)
    · exact ⟨_, _, rfl, rfl, both_start ..⟩
    · exact ⟨_, _, rfl, rfl, both_start' ..⟩
  case rest =>
    obtain ⟨X, Y, rfl, rfl, hr0⟩ := hcut
    go_wp2_with fail
    refine (fields_any _).mono ?_
    rintro r w1 ⟨rfl, hb⟩
    have hr1 := hr0.below hb
    clear hr0 hb
    go_wp2_with fail
    go_loopw [16] (fun i wr => ∃ k : Nat, k ≤ 6 ∧ i = .int .i64 k ∧ BothAt w X Y (bit a b c d e f) (bit a' b' c' d' e' f') k wr) (fun i _ => 6 - (intOf i).toNat)
    case atStart => exact ⟨0, by omega, rfl, hr1⟩
    case round =>
      obtain ⟨k, hk, rfl, hr⟩ := hrel
      clear hr1
      have hX := hr.hiX
      have hY := hr.hiY
      match k, hk with
      | 0, _ =>
        have hcx : ∀ o, (wr.alloc o).cell? ⟨X, 0, none⟩ = some (.bool a) := fun o => by rw [World.cell?_alloc_past _ _ _ hX]; exact hr.cx 0 (by omega)
        have hcy : ∀ o, (wr.alloc o).cell? ⟨Y, 0, none⟩ = some (.bool a') := fun o => by rw [World.cell?_alloc_past _ _ _ hY]; exact hr.cy 0 (by omega)
        have hfx : ∀ o, (wr.alloc o).frozen? ⟨X, 0, none⟩ = false := fun o => by rw [World.frozen?_alloc_past _ _ _ hX]; exact hr.fx 0 (by omega)
        have ix := idx0
        have HR := Lib.hid hr
        clear hr
        cases a'
        · go_wp2_with (go_at_call 23; refine (meth0 _ _).mono ?_; rintro r w' ⟨rfl, rfl⟩)
          go_roundw
          case rel => exact ⟨1, by omega, rfl, (HR.out.set (by omega) rfl).below (below_alloc (Below.refl _ _) _)⟩
          case measure => simp [intOf]
        · go_wp2_with (go_at_call 23; refine (meth0 _ _).mono ?_; rintro r w' ⟨rfl, rfl⟩)
          go_roundw
          case rel => exact ⟨1, by omega, rfl, (HR.out.below (below_alloc (Below.refl _ _) _)).no rfl⟩
          case measure => simp [intOf]
      | 1, _ =>
        have hcx : ∀ o, (wr.alloc o).cell? ⟨X, 1, none⟩ = some (.bool b) := fun o => by rw [World.cell?_alloc_past _ _ _ hX]; exact hr.cx 1 (by omega)
        have hcy : ∀ o, (wr.alloc o).cell? ⟨Y, 1, none⟩ = some (.bool b') := fun o => by rw [World.cell?_alloc_past _ _ _ hY]; exact hr.cy 1 (by omega)
        have hfx : ∀ o, (wr.alloc o).frozen? ⟨X, 1, none⟩ = false := fun o => by rw [World.frozen?_alloc_past _ _ _ hX]; exact hr.fx 1 (by omega)
        have ix := idx1
        have HR := Lib.hid hr
        clear hr
        cases b'
        · go_wp2_with (go_at_call 24; refine (meth1 _ _).mono ?_; rintro r w' ⟨rfl, rfl⟩)
          go_roundw
          case rel => exact ⟨2, by omega, rfl, (HR.out.set (by omega) rfl).below (below_alloc (Below.refl _ _) _)⟩
          case measure => simp [intOf]
        · go_wp2_with (go_at_call 24; refine (meth1 _ _).mono ?_; rintro r w' ⟨rfl, rfl⟩)
          go_roundw
          case rel => exact ⟨2, by omega, rfl, (HR.out.below (below_alloc (Below.refl _ _) _)).no rfl⟩
          case measure => simp [intOf]
      | 2, _ =>
        have hcx : ∀ o, (wr.alloc o).cell? ⟨X, 2, none⟩ = some (.bool c) := fun o => by rw [World.cell?_alloc_past _ _ _ hX]; exact hr.cx 2 (by omega)
        have hcy : ∀ o, (wr.alloc o).cell? ⟨Y, 2, none⟩ = some (.bool c') := fun o => by rw [World.cell?_alloc_past _ _ _ hY]; exact hr.cy 2 (by omega)
        have hfx : ∀ o, (wr.alloc o).frozen? ⟨X, 2, none⟩ = false := fun o => by rw [World.frozen?_alloc_past _ _ _ hX]; exact hr.fx 2 (by omega)
        have ix := idx2
        have HR := Lib.hid hr
        clear hr
        cases c'
        · go_wp2_with (go_at_call 25; refine (meth2 _ _).mono ?_; rintro r w' ⟨rfl, rfl⟩)
          go_roundw
          case rel => exact ⟨3, by omega, rfl, (HR.out.set (by omega) rfl).below (below_alloc (Below.refl _ _) _)⟩
          case measure => simp [intOf]
        · go_wp2_with (go_at_call 25; refine (meth2 _ _).mono ?_; rintro r w' ⟨rfl, rfl⟩)
          go_roundw
          case rel => exact ⟨3, by omega, rfl, (HR.out.below (below_alloc (Below.refl _ _) _)).no rfl⟩
          case measure => simp [intOf]
      | 3, _ =>
        have hcx : ∀ o, (wr.alloc o).cell? ⟨X, 3, none⟩ = some (.bool d) := fun o => by rw [World.cell?_alloc_past _ _ _ hX]; exact hr.cx 3 (by omega)
        have hcy : ∀ o, (wr.alloc o).cell? ⟨Y, 3, none⟩ = some (.bool d') := fun o => by rw [World.cell?_alloc_past _ _ _ hY]; exact hr.cy 3 (by omega)
        have hfx : ∀ o, (wr.alloc o).frozen? ⟨X, 3, none⟩ = false := fun o => by rw [World.frozen?_alloc_past _ _ _ hX]; exact hr.fx 3 (by omega)
        have ix := idx3
        have HR := Lib.hid hr
        clear hr
        cases d'
        · go_wp2_with (go_at_call 26; refine (meth3 _ _).mono ?_; rintro r w' ⟨rfl, rfl⟩)
          go_roundw
          case rel => exact ⟨4, by omega, rfl, (HR.out.set (by omega) rfl).below (below_alloc (Below.refl _ _) _)⟩
          case measure => simp [intOf]
        · go_wp2_with (go_at_call 26; refine (meth3 _ _).mono ?_; rintro r w' ⟨rfl, rfl⟩)
          go_roundw
          case rel => exact ⟨4, by omega, rfl, (HR.out.below (below_alloc (Below.refl _ _) _)).no rfl⟩
          case measure => simp [intOf]
      | 4, _ =>
        have hcx : ∀ o, (wr.alloc o).cell? ⟨X, 4, none⟩ = some (.bool e) := fun o => by rw [World.cell?_alloc_past _ _ _ hX]; exact hr.cx 4 (by omega)
        have hcy : ∀ o, (wr.alloc o).cell? ⟨Y, 4, none⟩ = some (.bool e') := fun o => by rw [World.cell?_alloc_past _ _ _ hY]; exact hr.cy 4 (by omega)
        have hfx : ∀ o, (wr.alloc o).frozen? ⟨X, 4, none⟩ = false := fun o => by rw [World.frozen?_alloc_past _ _ _ hX]; exact hr.fx 4 (by omega)
        have ix := idx4
        have HR := Lib.hid hr
        clear hr
        cases e'
        · go_wp2_with (go_at_call 27; refine (meth4 _ _).mono ?_; rintro r w' ⟨rfl, rfl⟩)
          go_roundw
          case rel => exact ⟨5, by omega, rfl, (HR.out.set (by omega) rfl).below (below_alloc (Below.refl _ _) _)⟩
          case measure => simp [intOf]
        · go_wp2_with (go_at_call 27; refine (meth4 _ _).mono ?_; rintro r w' ⟨rfl, rfl⟩)
          go_roundw
          case rel => exact ⟨5, by omega, rfl, (HR.out.below (below_alloc (Below.refl _ _) _)).no rfl⟩
          case measure => simp [intOf]
      | 5, _ =>
        have hcx : ∀ o, (wr.alloc o).cell? ⟨X, 5, none⟩ = some (.bool f) := fun o => by rw [World.cell?_alloc_past _ _ _ hX]; exact hr.cx 5 (by omega)
        have hcy : ∀ o, (wr.alloc o).cell? ⟨Y, 5, none⟩ = some (.bool f') := fun o => by rw [World.cell?_alloc_past _ _ _ hY]; exact hr.cy 5 (by omega)
        have hfx : ∀ o, (wr.alloc o).frozen? ⟨X, 5, none⟩ = false := fun o => by rw [World.frozen?_alloc_past _ _ _ hX]; exact hr.fx 5 (by omega)
        have ix := idx5
        have HR := Lib.hid hr
        clear hr
        cases f'
        · go_wp2_with (go_at_call 28; refine (meth5 _ _).mono ?_; rintro r w' ⟨rfl, rfl⟩)
          go_roundw
          case rel => exact ⟨6, by omega, rfl, (HR.out.set (by omega) rfl).below (below_alloc (Below.refl _ _) _)⟩
          case measure => simp [intOf]
        · go_wp2_with (go_at_call 28; refine (meth5 _ _).mono ?_; rintro r w' ⟨rfl, rfl⟩)
          go_roundw
          case rel => exact ⟨6, by omega, rfl, (HR.out.below (below_alloc (Below.refl _ _) _)).no rfl⟩
          case measure => simp [intOf]
      | 6, _ =>
        have x0 : wr.cell? ⟨X, 0, none⟩ = some (.bool (a && a')) := hr.cx 0 (by omega)
        have x1 : wr.cell? ⟨X, 1, none⟩ = some (.bool (b && b')) := hr.cx 1 (by omega)
        have x2 : wr.cell? ⟨X, 2, none⟩ = some (.bool (c && c')) := hr.cx 2 (by omega)
        have x3 : wr.cell? ⟨X, 3, none⟩ = some (.bool (d && d')) := hr.cx 3 (by omega)
        have x4 : wr.cell? ⟨X, 4, none⟩ = some (.bool (e && e')) := hr.cx 4 (by omega)
        have x5 : wr.cell? ⟨X, 5, none⟩ = some (.bool (f && f')) := hr.cx 5 (by omega)
        have f5 : wr.frozen? ⟨X, 5, none⟩ = false := hr.fx 5 (by omega)
        have hr2 : ∀ j, j < 6 → wr.cell? ⟨w.heap.size + 1 + 1, j, none⟩ = some (.bool false) := fun j hj => by
          have e := hr.res
          simp only [World.cell?, e]
          match j, hj with
          | 0, _ => rfl
          | 1, _ => rfl
          | 2, _ => rfl
          | 3, _ => rfl
          | 4, _ => rfl
          | 5, _ => rfl
        have r0 := hr2 0 (by omega)
        have r1 := hr2 1 (by omega)
        have r2 := hr2 2 (by omega)
        have r3 := hr2 3 (by omega)
        have r4 := hr2 4 (by omega)
        have r5 := hr2 5 (by omega)
        have hfr : ∀ j, wr.frozen? ⟨w.heap.size + 1 + 1, j, none⟩ = false := fun j => by
          have e := hr.res
          simp [World.frozen?, e]
        have hlo := hr.loX
        have hne : ¬ X = w.heap.size + 1 + 1 := by omega
        have hne' : ¬ w.heap.size + 1 + 1 = X := by omega
        have HR := Lib.hid hr
        clear hr hr2
        obtain ⟨z, hz⟩ : ∃ z, z = (f && f') := ⟨_, rfl⟩
        rw [← hz] at x5
        have HZ := Lib.hid hz
        clear hz
        cases z
        · go_wp2_with fail
          refine bodyPost_ret (v := .agg #[.bool (a && a'), .bool (b && b'), .bool (c && c'), .bool (d && d'), .bool (e && e'), .bool false]) (by simp [results, Try.results5, go_sem, r0, r1, r2, r3, r4, r5, hne, hne']) rfl ⟨by rw [← HZ.out]; rfl, ?_⟩
          exact ((((((HR.out.bel.setCell (by simp; omega) _).setCell (by simp; omega) _).setCell (by simp; omega) _).setCell (by simp; omega) _).setCell (by simp; omega) _).setCell (by simp; omega) _).setCell (by simp; omega) _
        · go_wp2_with fail
          refine bodyPost_ret (v := .agg #[.bool (a && a'), .bool (b && b'), .bool (c && c'), .bool (d && d'), .bool (e && e'), .bool (d && d')]) (by simp [results, Try.results5, go_sem, r0, r1, r2, r3, r4, r5, hne, hne']) rfl ⟨by rw [← HZ.out]; rfl, ?_⟩
          exact ((((((HR.out.bel.setCell (by simp; omega) _).setCell (by simp; omega) _).setCell (by simp; omega) _).setCell (by simp; omega) _).setCell (by simp; omega) _).setCell (by simp; omega) _).setCell (by simp; omega) _
      | k + 7, hk => exact absurd hk (by omega)

end Go.Proofs.Ytagopeefobefnaa
