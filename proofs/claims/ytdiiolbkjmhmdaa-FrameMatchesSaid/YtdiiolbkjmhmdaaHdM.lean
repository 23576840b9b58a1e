/- octet's cursor: cut. -/
import Derived.Test.YtdiiolbkjmhmdaaHdE
namespace Go.Proofs.Ytdiiolbkjmhmdaa
open Go.RowKit
set_option linter.unusedSimpArgs false
set_option linter.unusedVariables false

/-- The cursor at block g: its bytes and its offset. -/
def Cur (g : Nat) (A : Option Addr) (n c : Nat) (a : Int) (w : World) : Prop :=
  w.cell? ⟨g, 0, none⟩ = some (.slice A n c) ∧ w.cell? ⟨g, 1, none⟩ = some (.int .i64 a) ∧ w.frozen? ⟨g, 0, none⟩ = false ∧ w.frozen? ⟨g, 1, none⟩ = false ∧ g < w.heap.size
theorem Cur.below {g : Nat} {A : Option Addr} {n c : Nat} {a : Int} {w w' : World} (h : Cur g A n c a w) (hb : Below w.heap.size w w') : Cur g A n c a w' := by
  obtain ⟨h0, h1, f0, f1, hg⟩ := h
  have := hb.size
  exact ⟨by rw [hb.cell hg]; exact h0, by rw [hb.cell hg]; exact h1, by rw [hb.frozen hg]; exact f0, by rw [hb.frozen hg]; exact f1, by omega⟩
/-- What cut leaves. -/
def CutP (g ga oa n c k : Nat) (a : Int) (w : World) (r : Ending) (w' : World) : Prop :=
  r = .returned (.tuple #[.agg #[.slice (some ⟨ga, oa, none⟩) k k, .int .i64 a], .bool true]) ∧ Below g w w' ∧ ∃ o', (k < n → o' = oa + k) ∧ Cur g (some ⟨ga, o', none⟩) (n - k) (c - k) (a + k) w'
set_option maxRecDepth 100000 in
set_option maxHeartbeats 4000000 in
theorem cut_ok (g ga oa n c k : Nat) (a : Int) (hk : k ≤ n) (hk0 : 0 < k) (hk1 : k ≤ 16) (hn : n ≤ 140737488351232) (hc : n ≤ c) (hc2 : c ≤ 9223372036854775807) (ha : 0 ≤ a ∧ a ≤ 1000) (w : World)
    (h : Cur g (some ⟨ga, oa, none⟩) n c a w) :
    Calls Try.prog 67 #[.pointer (some ⟨g, 0, none⟩), .int .i64 k] w (CutP g ga oa n c k a w) := by
  obtain ⟨h0, h1, f0, f1, hg⟩ := h
  have e1 : IntKind.i64.wrap (a + k) = a + k := by rw [IntKind.wrap_i64]; omega
  have e2 : (k : Int) ≤ n := by omega
  have e3 : (k : Int) ≤ c := by omega
  have e4 : (0 : Int) ≤ k := by omega
  have hgs : ¬ w.heap.size = g := by omega
  go_enter Try.func67, Try.ntmps67
  go_wp2_with fail
  go_region
  all_goals go_wp2_with fail
  all_goals go_region
  all_goals go_wp2_with fail
  all_goals refine bodyPost_ret (v := .tuple #[.agg #[.slice (some ⟨ga, oa, none⟩) k k, .int .i64 a], .bool true]) (by simp [results, Try.results67, go_sem]) rfl ⟨rfl, ?_, ?_⟩
  · exact ((((((Below.refl g w).setCell (Nat.le_refl g) _).setCell (Nat.le_refl g) _).alloc (by simp; omega) _).alloc (by simp; omega) _).drew).drew
  · refine ⟨oa, fun h => by omega, ?_⟩
    rename_i h
    subst h
    refine ⟨by simp [*, go_sem], by simp [*, go_sem], by simp [*, go_sem], by simp [*, go_sem], by simp; omega⟩
  · exact ((((((Below.refl g w).setCell (Nat.le_refl g) _).setCell (Nat.le_refl g) _).alloc (by simp; omega) _).alloc (by simp; omega) _).drew).drew
  · refine ⟨oa + k, fun _ => rfl, by simp [*, go_sem], by simp [*, go_sem], by simp [*, go_sem], by simp [*, go_sem], by simp; omega⟩

def CutN (w : World) (r : Ending) (w' : World) : Prop := r = .returned (.tuple #[.agg #[.slice none 0 0, .int .i64 0], .bool false]) ∧ Below w.heap.size w w'
set_option maxRecDepth 100000 in
set_option maxHeartbeats 4000000 in
theorem cut_no (g : Nat) (A : Option Addr) (n c k : Nat) (a : Int) (hk : n < k) (hk1 : k ≤ 16) (w : World)
    (h : Cur g A n c a w) :
    Calls Try.prog 67 #[.pointer (some ⟨g, 0, none⟩), .int .i64 k] w (CutN w) := by
  obtain ⟨h0, h1, f0, f1, hg⟩ := h
  have e2 : (n : Int) < k := by omega
  have e4 : (0 : Int) ≤ k := by omega
  go_enter Try.func67, Try.ntmps67
  go_wp2_with fail
  refine bodyPost_ret (v := .tuple #[.agg #[.slice none 0 0, .int .i64 0], .bool false]) (by simp [results, Try.results67, go_sem]) rfl ⟨rfl, ?_⟩
  exact below_alloc (Below.refl _ _) _

end Go.Proofs.Ytdiiolbkjmhmdaa
