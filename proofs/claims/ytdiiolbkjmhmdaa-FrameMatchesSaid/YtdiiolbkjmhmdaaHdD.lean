/- The first byte of a marker that is not 255: slices.IndexFunc with the closure of Parse. -/
import Derived.Test.YtdiiolbkjmhmdaaHdC
namespace Go.Proofs.Ytdiiolbkjmhmdaa
open Go.RowKit
set_option linter.unusedSimpArgs false
set_option linter.unusedVariables false

def ne255 (x : Int) : Bool := x != 255
/-- Where the first byte stands that is not 255. -/
def mark (xs : List Int) : Option Nat := xs.findIdx? ne255
def markI (xs : List Int) : Int := match mark xs with | some i => (i : Int) | none => -1
theorem mark_some {xs : List Int} {k : Nat} (hk : k < xs.length) (h : ∀ j, j < k → xs.getD j 0 = 255) (hn : ¬ xs.getD k 0 = 255) : mark xs = some k := by
  unfold mark
  rw [List.findIdx?_eq_some_iff_getElem]
  refine ⟨hk, ?_, fun j hj => ?_⟩
  · simp [List.getD_eq_getElem?_getD, List.getElem?_eq_getElem hk] at hn
    simpa [ne255] using hn
  · have := h j hj
    simp [List.getD_eq_getElem?_getD, List.getElem?_eq_getElem (show j < xs.length by omega)] at this
    simp [ne255, this]
theorem mark_none {xs : List Int} (h : ∀ j, j < xs.length → xs.getD j 0 = 255) : mark xs = none := by
  unfold mark
  rw [List.findIdx?_eq_none_iff]
  intro x hx
  obtain ⟨j, hj, rfl⟩ := List.mem_iff_getElem.1 hx
  have := h j hj
  simp [List.getD_eq_getElem?_getD, List.getElem?_eq_getElem hj] at this
  simp [ne255, this]

theorem pred_any (x : Int) (w : World) : Calls Try.prog 49 #[.int .u8 x] w fun r w' => r = .returned (.bool (x != 255)) ∧ w = w' := by
  go_enter Try.func49, Try.ntmps49
  go_wp2
  go_ret
  exact ⟨rfl, rfl⟩

set_option maxRecDepth 100000 in
set_option maxHeartbeats 1000000 in
theorem index_any (w : World) (v : Value) (xs : List Int) (h1 : RdB w v xs) :
    Calls Try.prog 48 #[v, .func (.func 49) #[] #[]] w (RV (.int .i64 (markI xs)) w) := by
  obtain ⟨b1, m1, A1, c1, rfl, k1, k1', r1⟩ := h1
  unfold maxB at m1
  by_cases h0 : xs.length = 0
  · have e : Value.int .i64 (markI xs) = .int .i64 (-1) := by rw [List.eq_nil_of_length_eq_zero h0]; rfl
    refine Calls.mono (R := RV (.int .i64 (-1)) w) ?_ fun r w' h => rv_eq h e
    rw [h0]
    go_enter Try.func48, Try.ntmps48
    go_wp2
    refine wp_loop_rounds 1 ?_
    rw [rounds_succ]
    go_wp2
    go_ret
    exact ⟨rfl, Below.refl _ _⟩
  · obtain ⟨g1, o1, rfl, l1, q1⟩ := r1 (by omega)
    obtain ⟨n, hn⟩ : ∃ n, n = xs.length := ⟨_, rfl⟩
    rw [← hn] at m1 k1 h0 q1 ⊢
    have HN := Lib.hid hn
    have Q1 := Lib.hid q1
    have hn63 : (n : Int) ≤ 9223372036854775807 := by omega
    clear hn k1 r1 q1
    go_enter Try.func48, Try.ntmps48
    go_wp2
    go_loop [5, 8] (fun _ i => ∃ k : Nat, k ≤ n ∧ i = .int .i64 k ∧ ∀ j, j < k → xs.getD j 0 = 255) (fun _ i => n - (intOf i).toNat)
    case atStart => exact ⟨0, by omega, rfl, fun j hj => absurd hj (by omega)⟩
    case round =>
      obtain ⟨k, hk, rfl, ht⟩ := hrel
      have HT := Lib.hid ht
      clear ht
      by_cases hlt : k < n
      · obtain ⟨x, hx⟩ : ∃ x, x = xs.getD k 0 := ⟨_, rfl⟩
        have hcx : w.cell? ⟨g1, o1 + k, none⟩ = some (.int .u8 x) := by rw [hx]; exact Q1.out k hlt
        have HX := Lib.hid hx
        clear hx
        by_cases hxy : x = 255
        · subst hxy
          go_wp2_with (go_at_call 49; refine (pred_any _ _).mono ?_; rintro r w' ⟨rfl, rfl⟩)
          go_round
          case rel => exact ⟨k + 1, by omega, by go_num, fun j hj => if e : j = k then e ▸ HX.out.symm else HT.out j (by omega)⟩
          case measure => simp [intOf]; omega
        · have hne : (x != 255) = true := by simpa using hxy
          have HE := Lib.hid (mark_some (by rw [← HN.out]; exact hlt) HT.out (fun e => hxy (HX.out.trans e)))
          clear hxy
          go_wp2_with (go_at_call 49; refine (pred_any _ _).mono ?_; rintro r w' ⟨rfl, rfl⟩)
          go_ret
          exact rv_eq ⟨rfl, Below.refl _ _⟩ (by unfold markI; rw [HE.out]; rfl)
      · obtain rfl : k = n := by omega
        have HE := Lib.hid (mark_none (xs := xs) (fun j hj => HT.out j (by rw [HN.out]; exact hj)))
        go_wp2_with fail
        go_ret
        exact rv_eq ⟨rfl, Below.refl _ _⟩ (by unfold markI; rw [HE.out]; rfl)

end Go.Proofs.Ytdiiolbkjmhmdaa
