/- The reference's All: the 64 records of options. -/
import Derived.Test.YtagopeefobefnaaDoorDoG
namespace Go.Proofs.YtagopeefobefnaaDoor
open Go.RowKit
set_option linter.unusedSimpArgs false
set_option linter.unusedVariables false

/-- Option j of record number n. -/
def nb (n j : Nat) : Bool := n / 2 ^ j % 2 == 1
def nbRow (n k : Nat) (j : Nat) : Bool := if j < k then nb n j else false
def cellsN (n : Nat) : List Value := [.bool (nb n 0), .bool (nb n 1), .bool (nb n 2), .bool (nb n 3), .bool (nb n 4), .bool (nb n 5)]
def allN : Nat → List Value
  | 0 => []
  | n + 1 => allN n ++ cellsN n
theorem allN_length (n : Nat) : (allN n).length = n * 6 := by
  induction n with
  | zero => rfl
  | succ n ih => simp [allN, cellsN, ih]; omega

theorem grown_of_below {w w1 : World} (h : Below w.heap.size w w1) (row : Option Nat) : w.grownBy w1 row := ⟨h.os, h.tape, h.output, h.size, fun i hi _ => h.block i hi⟩
theorem own_below {w w1 : World} {base : Nat} {e : TypeId} {size n : Nat} {v : Value} {xs : List Value} (h : w.ownsRow base e size v n xs) (hb : Below w.heap.size w w1) : w1.ownsRow base e size v n xs :=
  h.kept (grown_of_below hb none) (by cases v.ownBlock <;> simp)
theorem own_form {w : World} {b : Nat} {e : TypeId} {size n : Nat} {v : Value} {xs : List Value} (h : w.ownsRow b e size v n xs) : ∃ A c, v = .slice A n c := by
  rcases h.2 with ⟨rfl, rfl⟩ | ⟨g, cap, cur, rfl, _⟩
  · exact ⟨_, _, rfl⟩
  · exact ⟨_, _, rfl⟩
theorem Tryd.infoO : (Tryd.prog.info? 25).map (fun i => (i.zero, i.size, i.bytes)) = some (some (.agg #[.bool false, .bool false, .bool false, .bool false, .bool false, .bool false]), 6, 6) := by kernel_rfl
theorem bits_all : (List.range 64).all (fun n => (List.range 6).all fun k => (bits .and .i64 ((n : Int) / 2 ^ k) 1 == 1) == nb n k) = true := by kernel_rfl
theorem bits_nb {n k : Nat} (hn : n < 64) (hk : k < 6) : (bits .and .i64 ((n : Int) / 2 ^ k) 1 == 1) = nb n k := by
  have := List.all_eq_true.1 (List.all_eq_true.1 bits_all n (List.mem_range.2 hn)) k (List.mem_range.2 hk)
  simpa using this
theorem cellsN_one (n : Nat) : ∀ u ∈ cellsN n, u.oneCell' = true := fun u hu => by
  simp [cellsN] at hu
  rcases hu with rfl | rfl | rfl | rfl | rfl | rfl <;> rfl
theorem new_cells (w : World) (cs : Array Value) (t : TypeId) : ∀ (j : Nat) (u : Value), cs.toList[j]? = some u → (w.alloc (.cells cs t)).cell? ((⟨w.heap.size, 0, none⟩ : Addr).add j) = some u := fun j u hu => by
  rw [add_plain, World.cell?_alloc_at _ _ _ _ rfl]; simpa using hu

/-- A row of six truth values at L. -/
def Row6 (L : Nat) (f : Nat → Bool) (w : World) : Prop := L < w.heap.size ∧ ∀ j, j < 6 → w.cell? ⟨L, j, none⟩ = some (.bool (f j)) ∧ w.frozen? ⟨L, j, none⟩ = false
theorem Row6.set {L : Nat} {f g : Nat → Bool} {w : World} (h : Row6 L f w) {k : Nat} (v : Bool) (h1 : g k = v) (h2 : ∀ j, j ≠ k → g j = f j) : Row6 L g (w.setCell ⟨L, k, none⟩ (.bool v)) := by
  refine ⟨by simpa using h.1, fun j hj => ⟨?_, by rw [World.frozen?_setCell]; exact (h.2 j hj).2⟩⟩
  by_cases e : j = k
  · subst e; rw [World.cell?_setCell_same _ _ _ (h.2 j hj).1, h1]
  · rw [World.cell?_setCell_other _ _ _ _ (addr_ne (.inr (Ne.symm e))), (h.2 j hj).1, h2 j e]
theorem Row6.below {L : Nat} {f : Nat → Bool} {w w' : World} (h : Row6 L f w) (hb : Below w.heap.size w w') : Row6 L f w' :=
  ⟨Nat.lt_of_lt_of_le h.1 hb.size, fun j hj => ⟨by rw [hb.cell h.1]; exact (h.2 j hj).1, by rw [hb.frozen h.1]; exact (h.2 j hj).2⟩⟩
theorem nbRow_succ (n k : Nat) : nbRow n (k + 1) k = nb n k ∧ ∀ j, j ≠ k → nbRow n (k + 1) j = nbRow n k j := by
  refine ⟨by simp [nbRow], fun j hj => ?_⟩
  unfold nbRow
  by_cases h : j < k
  · rw [if_pos h, if_pos (by omega)]
  · rw [if_neg h, if_neg (by omega)]

set_option maxRecDepth 100000 in
set_option maxHeartbeats 4000000 in
theorem all_any (w : World) : Calls Tryd.prog 27 #[] w fun r w' => ∃ A c, r = .returned (.slice A 64 c) ∧ w'.ownsRow w.heap.size 25 6 (.slice A 64 c) 64 (allN 64) ∧ Below w.heap.size w w' := by
  go_enter Tryd.func27, Tryd.ntmps27
  go_wp2_with fail
  go_loopw [1, 2] (fun v i wr => ∃ (n : Nat), n ≤ 64 ∧ i = .int .i64 n ∧ (∃ A c, v = .slice A n c) ∧ wr.ownsRow w.heap.size 25 6 v n (allN n) ∧ Below w.heap.size w wr) (fun _ i _ => 64 - (intOf i).toNat)
  case atStart => exact ⟨0, by omega, rfl, ⟨_, _, rfl⟩, own_nil _ _ _ _, Below.refl _ _⟩
  case round =>
    obtain ⟨w0, hw0⟩ : ∃ w0, w0 = wr := ⟨_, rfl⟩
    subst hw0
    obtain ⟨n, hn, rfl, ⟨A, c, rfl⟩, ho, hb⟩ := hrel
    have HO := Lib.hid ho
    have HB := Lib.hid hb
    clear ho hb
    by_cases hlt : n < 64
    · have hn64 : (n : Int) < 64 := by omega
      go_wp2_with fail
      obtain ⟨L, hL⟩ : ∃ L, L = w0.heap.size := ⟨_, rfl⟩
      obtain ⟨W1, hW1⟩ : ∃ W1, W1 = w0.alloc (.cells #[.bool false, .bool false, .bool false, .bool false, .bool false, .bool false] 4) := ⟨_, rfl⟩
      rw [← hW1, ← hL]
      have hrow : Row6 L (nbRow n 0) W1 := by
        rw [hW1, hL]
        refine ⟨by simp, fun j hj => ⟨?_, ?_⟩⟩
        · rw [World.cell?_alloc_at _ _ _ _ rfl]; exact bit_cells' false false false false false false j hj |>.trans (by congr 2; unfold bit nbRow; split <;> rfl)
        · rw [World.frozen?_alloc_at _ _ _ _ rfl]
      have HR := Lib.hid hrow
      have HB1 := Lib.hid (show Below w0.heap.size w0 W1 by rw [hW1]; exact below_alloc (Below.refl _ _) _)
      have HL := Lib.hid hL
      clear hrow hL hW1
      go_loopw [4] (fun i wx => ∃ k : Nat, k ≤ 6 ∧ i = .int .i64 k ∧ Row6 L (nbRow n k) wx ∧ Below L W1 wx) (fun i _ => 6 - (intOf i).toNat)
      case atStart => exact ⟨0, by omega, rfl, HR.out, Below.refl _ _⟩
      case round =>
        obtain ⟨k, hk, rfl, hr, hbx⟩ := hrel
        have HR2 := Lib.hid hr
        have HB2 := Lib.hid hbx
        by_cases hk6 : k < 6
        · have hk6' : (k : Int) < 6 := by omega
          have hkc := (hr.2 k hk6).1
          have hkf := (hr.2 k hk6).2
          have hbit := bits_nb hlt hk6
          obtain ⟨z, hz⟩ : ∃ z, z = nb n k := ⟨_, rfl⟩
          rw [← hz] at hbit
          have HZ := Lib.hid hz
          clear hr hbx hz
          go_wp2_with fail
          go_roundw
          case rel => exact ⟨k + 1, by omega, by go_num, HR2.out.set z (by rw [(nbRow_succ n k).1, HZ.out]) (nbRow_succ n k).2, HB2.out.setCell (Nat.le_refl _) _⟩
          case measure => simp [intOf]; omega
        · obtain rfl : k = 6 := by omega
          obtain ⟨iB, hiB, hz0, hz1, hz2⟩ := info_parts Tryd.infoO
          have hq : Below w0.heap.size w0 wr := HB1.out.trans (by rw [← HL.out]; exact hbx)
          have CO := Lib.hid (of_any L 6 6 (nb n 0) (nb n 1) (nb n 2) (nb n 3) (nb n 4) (nb n 5) wr (by omega) hr.1 (hr.2 0 (by omega)).1 (hr.2 1 (by omega)).1 (hr.2 2 (by omega)).1 (hr.2 3 (by omega)).1 (hr.2 4 (by omega)).1 (hr.2 5 (by omega)).1)
          have HQ := Lib.hid hq
          clear hr hbx hq
          go_wp2_with fail
          refine CO.out.mono ?_
          rintro r w3 ⟨rfl, hb3⟩
          have hq3 := below_then' HQ.out hb3
          have hq4 := below_alloc hq3 (.cells (cellsN n).toArray 25)
          have HO4 := Lib.hid (own_below HO.out hq4)
          have HC4 := Lib.hid (new_cells w3 (cellsN n).toArray 25)
          have HB4 := Lib.hid (below_then' HB.out hq4)
          clear hq3 hq4 hb3
          go_wp2_with (at_builtin; refine wpList_append_own _ rfl _ _ 57 rfl w.heap.size 25 iB (.agg #[.bool false, .bool false, .bool false, .bool false, .bool false, .bool false]) 6 6 Tryd.underlying57 hiB hz0 hz1 hz2 rfl (by decide) _ _ _ rfl HO4.out ⟨w3.heap.size, 0, none⟩ 1 1 (cellsN n) rfl rfl HC4.out (cellsN_one n) ?c3 ?c4 ?c5 ?_)
          case c3 => unfold maxLen; omega
          case c4 => omega
          case c5 => exact HB4.out.size
          intro v' w5 hown' hgrow _
          obtain ⟨A5, c5', rfl⟩ := own_form hown'
          have HO5 := Lib.hid hown'
          have HB5 := Lib.hid (HB4.out.grown hgrow HB4.out.size (fun k hk => (HO4.out.lt k hk).1))
          clear hown' hgrow
          go_wp2_with fail
          go_roundw
          case rel => exact ⟨n + 1, by omega, by go_num, ⟨_, _, rfl⟩, HO5.out, HB5.out⟩
          case measure => simp [intOf]; omega
    · obtain rfl : n = 64 := by omega
      go_wp2_with fail
      go_ret
      exact ⟨A, c, rfl, HO.out, HB.out⟩

end Go.Proofs.YtagopeefobefnaaDoor
