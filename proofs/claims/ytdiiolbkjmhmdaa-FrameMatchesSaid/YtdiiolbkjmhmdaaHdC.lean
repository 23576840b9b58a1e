/- Slices of bytes that are read: slices.Equal and slices.IndexFunc at bytes. -/
import Derived.Test.YtdiiolbkjmhmdaaHdB
import Derived.IntWalk
namespace Go.Proofs.Ytdiiolbkjmhmdaa
open Go.RowKit
set_option linter.unusedSimpArgs false
set_option linter.unusedVariables false

/-- The cells of a list of bytes. -/
def bv (xs : List Int) : List Value := xs.map (Value.int .u8)
theorem bv_length (xs : List Int) : (bv xs).length = xs.length := by simp [bv]
theorem bv_append (xs ys : List Int) : bv (xs ++ ys) = bv xs ++ bv ys := by simp [bv]
theorem bv_nil : bv [] = [] := rfl
theorem bv_at {xs : List Int} {j : Nat} (hj : j < xs.length) : (bv xs)[j]? = some (.int .u8 (xs.getD j 0)) := by
  simp [bv, List.getD_eq_getElem?_getD, List.getElem?_eq_getElem hj]
def maxB : Nat := 140737488351232
/-- The value reads as this list of bytes. -/
def RdB (w : World) (v : Value) (xs : List Int) : Prop :=
  (∀ x ∈ xs, 0 ≤ x ∧ x ≤ 255) ∧ xs.length ≤ maxB ∧ ∃ A c, v = .slice A xs.length c ∧ xs.length ≤ c ∧ (c ≤ 9223372036854775807 ∧ (A = none → c = 0)) ∧ (0 < xs.length → ∃ g o, A = some ⟨g, o, none⟩ ∧ g < w.heap.size ∧ ∀ j, j < xs.length → w.cell? ⟨g, o + j, none⟩ = some (.int .u8 (xs.getD j 0)))
theorem RdB.below {w w1 : World} {v : Value} {xs : List Int} (h : RdB w v xs) (hb : Below w.heap.size w w1) : RdB w1 v xs := by
  obtain ⟨h0, h1, A, c, h2, h3, h3', h4⟩ := h
  refine ⟨h0, h1, A, c, h2, h3, h3', fun hp => ?_⟩
  obtain ⟨g, o, e, hg, hc⟩ := h4 hp
  exact ⟨g, o, e, Nat.lt_of_lt_of_le hg hb.size, fun j hj => by rw [hb.cell hg]; exact hc j hj⟩
theorem RdB.nil (w : World) (A : Option Addr) (c : Nat) (hc : c ≤ 9223372036854775807 ∧ (A = none → c = 0)) : RdB w (.slice A 0 c) [] :=
  ⟨by simp, by simp, A, c, rfl, Nat.zero_le _, hc, fun h => absurd h (by simp)⟩
/-- An owned row of bytes reads as its list. -/
theorem RdB.own {w : World} {base : Nat} {v : Value} {xs : List Int} (h : w.ownsRow base 5 1 v xs.length (bv xs)) (hx : ∀ x ∈ xs, 0 ≤ x ∧ x ≤ 255) (hl : xs.length ≤ maxB) : RdB w v xs := by
  refine ⟨hx, hl, ?_⟩
  have h0 := h
  rcases h.2 with ⟨rfl, e⟩ | ⟨g, cap, cur, rfl, hb, hg, hnc, hcm, hcs, ht⟩
  · rw [e]; exact ⟨none, 0, rfl, Nat.le_refl _, ⟨by omega, fun _ => rfl⟩, fun h => absurd h (by omega)⟩
  · refine ⟨_, cap, rfl, hnc, ⟨by unfold maxLen at hcm; omega, fun h => nomatch h⟩, fun _ => ⟨g, 0, rfl, (Array.getElem?_eq_some_iff.1 hg).1, fun j hj => ?_⟩⟩
    have := h0.cells (g := g) rfl j (.int .u8 (xs.getD j 0)) (bv_at hj)
    rw [add_plain] at this
    rw [Nat.zero_add]; exact this
theorem RdB.get {w : World} {v : Value} {xs : List Int} (h : RdB w v xs) {j : Nat} (hj : j < xs.length) : 0 ≤ xs.getD j 0 ∧ xs.getD j 0 ≤ 255 :=
  h.1 _ (by rw [List.getD_eq_getElem?_getD, List.getElem?_eq_getElem hj]; exact List.getElem_mem hj)

theorem take_eq_succ {xs ys : List Int} {k : Nat} (hk : k < xs.length) (hk' : k < ys.length) (h : xs.take k = ys.take k) (he : xs.getD k 0 = ys.getD k 0) : xs.take (k + 1) = ys.take (k + 1) := by
  rw [List.take_succ_eq_append_getElem hk, List.take_succ_eq_append_getElem hk', h]
  simp [List.getD_eq_getElem?_getD, List.getElem?_eq_getElem hk, List.getElem?_eq_getElem hk'] at he
  rw [he]
theorem ne_of_getD {xs ys : List Int} {k : Nat} (he : ¬ xs.getD k 0 = ys.getD k 0) : (xs == ys) = false := by
  rw [beq_eq_false_iff_ne]
  intro h; rw [h] at he; exact he rfl
theorem eq_of_take {xs ys : List Int} {k : Nat} (hx : k = xs.length) (hy : k = ys.length) (h : xs.take k = ys.take k) : (xs == ys) = true := by
  rw [List.take_of_length_le (by omega), List.take_of_length_le (by omega)] at h
  rw [h]; simp

set_option maxRecDepth 100000 in
set_option maxHeartbeats 1000000 in
theorem equalB_any (w : World) (v1 v2 : Value) (xs ys : List Int) (h1 : RdB w v1 xs) (h2 : RdB w v2 ys) :
    Calls Try.prog 16 #[v1, v2] w (RB (xs == ys) w) := by
  obtain ⟨b1, m1, A1, c1, rfl, k1, k1', r1⟩ := h1
  obtain ⟨b2, m2, A2, c2, rfl, k2, k2', r2⟩ := h2
  unfold maxB at m1 m2
  by_cases hl : xs.length = ys.length
  · by_cases h0 : xs.length = 0
    · have e : (xs == ys) = true := by
        have e1 : xs = [] := List.eq_nil_of_length_eq_zero h0
        have e2 : ys = [] := List.eq_nil_of_length_eq_zero (by omega)
        rw [e1, e2]; rfl
      refine Calls.mono (R := RB true w) ?_ fun r w' h => rb_eq h e
      rw [← hl, h0]
      go_enter Try.func16, Try.ntmps16
      go_wp2
      refine wp_loop_rounds 1 ?_
      rw [rounds_succ]
      go_wp2
      go_ret
      exact ⟨rfl, Below.refl _ _⟩
    · obtain ⟨g1, o1, rfl, l1, q1⟩ := r1 (by omega)
      obtain ⟨g2, o2, rfl, l2, q2⟩ := r2 (by omega)
      obtain ⟨n, hn⟩ : ∃ n, n = xs.length := ⟨_, rfl⟩
      rw [← hl, ← hn]
      rw [← hn] at m1 k1 h0 q1
      have HN := Lib.hid hn
      have HN2 := Lib.hid (hn.trans hl)
      rw [← hl, ← hn] at q2
      clear hn hl k1 k2 m2 r1 r2
      go_enter Try.func16, Try.ntmps16
      go_wp2
      go_loopw [5, 13] (fun _ i wr => ∃ k : Nat, k ≤ n ∧ i = .int .i64 k ∧ xs.take k = ys.take k ∧ Below w.heap.size w wr) (fun _ i _ => n - (intOf i).toNat)
      case atStart => exact ⟨0, by omega, rfl, by simp, Below.refl _ _⟩
      case round =>
        obtain ⟨k, hk, rfl, ht, hb⟩ := hrel
        have HT := Lib.hid ht
        have HB := Lib.hid hb
        clear ht hb
        have Q1 := Lib.hid q1
        have Q2 := Lib.hid q2
        have hn63 : (n : Int) ≤ 9223372036854775807 := by omega
        clear q1 q2
        by_cases hlt : k < n
        · obtain ⟨x, hx⟩ : ∃ x, x = xs.getD k 0 := ⟨_, rfl⟩
          obtain ⟨y, hy⟩ : ∃ y, y = ys.getD k 0 := ⟨_, rfl⟩
          have hcx : wr.cell? ⟨g1, o1 + k, none⟩ = some (.int .u8 x) := by rw [HB.out.cell l1, hx]; exact Q1.out k hlt
          have hcy : wr.cell? ⟨g2, o2 + k, none⟩ = some (.int .u8 y) := by rw [HB.out.cell l2, hy]; exact Q2.out k hlt
          have HX := Lib.hid hx
          have HY := Lib.hid hy
          clear hx hy
          by_cases hxy : x = y
          · subst hxy
            go_wp2_with fail
            go_quiet (fail)
            go_wp2_with fail
            go_roundw
            case rel => exact ⟨k + 1, by omega, by go_num, take_eq_succ (by rw [← HN.out]; exact hlt) (by rw [← HN2.out]; exact hlt) HT.out (HX.out.symm.trans HY.out), below_drewN HB.out _⟩
            case measure => simp [intOf]; omega
          · have hne : (x != y) = true := by simpa using hxy
            have HE := Lib.hid (ne_of_getD (k := k) (fun e => hxy (HX.out.trans (e.trans HY.out.symm))) : (xs == ys) = false)
            clear hxy
            go_wp2_with fail
            go_quiet (fail)
            go_wp2_with fail
            go_ret
            exact rb_eq ⟨rfl, below_drewN HB.out _⟩ HE.out
        · obtain rfl : k = n := by omega
          have HE := Lib.hid (eq_of_take HN.out HN2.out HT.out)
          go_wp2_with fail
          go_ret
          exact rb_eq ⟨rfl, HB.out⟩ HE.out
  · have e : (xs == ys) = false := by
      rw [beq_eq_false_iff_ne]; intro h; exact hl (by rw [h])
    refine Calls.mono (R := RB false w) ?_ fun r w' h => rb_eq h e
    have hne : ((xs.length : Int) != (ys.length : Int)) = true := by simpa using fun h => hl (by omega)
    obtain ⟨n, hn⟩ : ∃ n, n = xs.length := ⟨_, rfl⟩
    obtain ⟨m, hm⟩ : ∃ n, n = ys.length := ⟨_, rfl⟩
    rw [← hn, ← hm] at hne ⊢
    have hne' : ((n : Nat) != m) = true := by simpa using fun h => hl (by rw [← hn, ← hm]; exact h)
    clear hn hm hl k1 k2 m1 m2 r1 r2 e
    go_enter Try.func16, Try.ntmps16
    go_wp2
    go_ret
    exact ⟨rfl, Below.refl _ _⟩

end Go.Proofs.Ytdiiolbkjmhmdaa
