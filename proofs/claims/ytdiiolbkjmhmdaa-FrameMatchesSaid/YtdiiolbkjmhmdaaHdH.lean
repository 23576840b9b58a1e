/- octet.Put of two bytes; header.Bytes, header.Wrap. -/
import Derived.Test.YtdiiolbkjmhmdaaHdG
namespace Go.Proofs.Ytdiiolbkjmhmdaa
open Go.RowKit
set_option linter.unusedSimpArgs false
set_option linter.unusedVariables false

theorem make2 (w : World) : (Instr.makeSlice 24 (.int .i64 2) (.int .i64 2)).run Try.prog w = .ok (.slice (some ⟨w.heap.size, 0, none⟩) 2 2) (w.alloc (.cells #[.int .u8 0, .int .u8 0] 5)) := by kernel_rfl

/-- What a function leaves behind that answers a row of bytes of its own and a bool. -/
def OwnBT (xs : List Int) (z : Bool) (w : World) (r : Ending) (w' : World) : Prop := ∃ A c, r = .returned (.tuple #[.slice A xs.length c, .bool z]) ∧ w'.ownsRow w.heap.size 5 1 (.slice A xs.length c) xs.length (bv xs) ∧ Below w.heap.size w w'
theorem mkOwnBT {xs : List Int} {z : Bool} {w w' : World} {r : Ending} {v : Value} (e : r = .returned (.tuple #[v, .bool z])) (h : w'.ownsRow w.heap.size 5 1 v xs.length (bv xs)) (hb : Below w.heap.size w w') : OwnBT xs z w r w' := by
  obtain ⟨A, c, rfl⟩ := own_form h
  exact ⟨A, c, e, h, hb⟩
theorem own_lits (w : World) (n : Nat) (hn : n = w.heap.size) (cs : Array Value) (xs : List Int) (hx : cs.toList = bv xs) (hl : xs.length ≤ 100) : (w.alloc (.cells cs 5)).ownsRow w.heap.size 5 1 (.slice (some ⟨n, 0, none⟩) xs.length xs.length) xs.length (bv xs) := by
  subst hn
  refine ⟨by rw [bv_length, Nat.mul_one], .inr ⟨w.heap.size, xs.length, cs, rfl, Nat.le_refl _, heap_alloc_new w _, Nat.le_refl _, by unfold maxLen; omega, ?_, ?_⟩⟩
  · rw [← Array.length_toList, hx, bv_length, Nat.mul_one]
  · rw [hx, Nat.mul_one, List.take_of_length_le (by rw [bv_length]; exact Nat.le_refl _)]

set_option maxRecDepth 100000 in
set_option maxHeartbeats 2000000 in
theorem put2_any (x : Int) (h0 : 0 ≤ x) (h1 : x ≤ 65535) (w : World) :
    Calls Try.prog 42 #[.int .i64 2, .int .u32 x] w (OwnBT [x / 256, x % 256] true w) := by
  have mk := make2
  go_enter Try.func42, Try.ntmps42
  go_wp2_with fail
  refine wp_loop_rounds 3 ?_
  rw [rounds_succ]
  go_wp2_with fail
  rw [rounds_succ]
  go_wp2_with fail
  rw [rounds_succ]
  go_wp2_with fail
  go_ret2
  exact mkOwnBT rfl (own_lits w _ rfl #[.int .u8 (x / 256), .int .u8 (x % 256)] [x / 256, x % 256] rfl (by simp)) (below_alloc (Below.refl _ _) _)

def hbytes (n k : Int) : List Int := m16 ++ [n / 256, n % 256] ++ [k]
def badB (n k : Int) : Bool := decide (n < 0) || decide (65535 < n) || decide (k < 0) || decide (255 < k)
set_option maxRecDepth 100000 in
theorem bytes_bad (n k : Int) (h : n < 0 ∨ 65535 < n ∨ k < 0 ∨ 255 < k) (w : World) : Calls Try.prog 13 #[.agg #[.int .i64 n, .int .i64 k]] w (RV (.tuple #[.slice none 0 0, .bool false]) w) := by
  by_cases h1 : n < 0
  · clear h
    go_enter Try.func13, Try.ntmps13
    go_wp2_with fail
    go_ret2
    exact ⟨rfl, below_alloc (Below.refl _ _) _⟩
  · by_cases h2 : 65535 < n
    · clear h
      go_enter Try.func13, Try.ntmps13
      go_wp2_with fail
      go_ret2
      exact ⟨rfl, below_alloc (Below.refl _ _) _⟩
    · by_cases h3 : k < 0
      · clear h
        go_enter Try.func13, Try.ntmps13
        go_wp2_with fail
        go_ret2
        exact ⟨rfl, below_alloc (Below.refl _ _) _⟩
      · have h4 : 255 < k := by omega
        clear h
        go_enter Try.func13, Try.ntmps13
        go_wp2_with fail
        go_ret2
        exact ⟨rfl, below_alloc (Below.refl _ _) _⟩

/-- What holds of the header's kind and of the length's bytes within the statement. -/
def HdS (N : Nat) (W : World) (k : Int) (v : Value) (xs : List Int) (w' : World) : Prop := Below W.heap.size W w' ∧ w'.cell? ⟨N, 1, none⟩ = some (.int .i64 k) ∧ RdB w' v xs
theorem HdS.next {N : Nat} {W w1 w2 : World} {k : Int} {v : Value} {xs : List Int} (hb : Below w1.heap.size w1 w2) (hN : N < W.heap.size) (h : HdS N W k v xs w1) : HdS N W k v xs w2 :=
  ⟨below_then h.1 h.1.size hb, by rw [hb.cell (by have := h.1.size; simp; omega)]; exact h.2.1, h.2.2.below hb⟩
theorem HdS.rd {N : Nat} {W w1 : World} {k : Int} {v : Value} {xs : List Int} (h : HdS N W k v xs w1) : RdB w1 v xs := h.2.2
theorem HdS.bel {N : Nat} {W w1 : World} {k : Int} {v : Value} {xs : List Int} (h : HdS N W k v xs w1) : Below W.heap.size W w1 := h.1
theorem m16_bytes : ∀ x ∈ m16, 0 ≤ x ∧ x ≤ 255 := fun x hx => by rw [List.eq_of_mem_replicate hx]; omega
theorem m16_le : m16.length ≤ maxB := by simp [m16, maxB]
theorem HdS.alloc {N : Nat} {W w1 : World} {k : Int} {v : Value} {xs : List Int} {o : Obj} (hN : N < W.heap.size) (h : HdS N W k v xs w1) : HdS N W k v xs (w1.alloc o) := h.next (below_alloc (Below.refl _ _) _) hN

set_option maxRecDepth 100000 in
set_option maxHeartbeats 4000000 in
theorem bytes_ok (n k : Int) (h1 : 0 ≤ n) (h2 : n ≤ 65535) (h3 : 0 ≤ k) (h4 : k ≤ 255) (w : World) : Calls Try.prog 13 #[.agg #[.int .i64 n, .int .i64 k]] w (OwnBT (hbytes n k) true w) := by
  have hk8 : IntKind.u8.wrap k = k := by rw [IntKind.wrap_u8]; omega
  have kb : 0 ≤ k ∧ k ≤ 255 := ⟨h3, h4⟩
  have KB := Lib.hid kb
  clear kb
  have CC : Hid (∀ W v, RdBB W v [m16, [n / 256, n % 256], [k]] → w.heap.size ≤ W.heap.size → Calls Try.prog 43 #[v] W fun r w' => ∃ A c, r = .returned (.slice A (hbytes n k).length c) ∧ w'.ownsRow w.heap.size 5 1 (.slice A (hbytes n k).length c) (hbytes n k).length (bv (hbytes n k)) ∧ Below W.heap.size W w') := fun W v h hs => by
    have := cat_any W v _ h (by simp [m16])
    rw [show [m16, [n / 256, n % 256], [k]].flatten = hbytes n k by simp [hbytes]] at this
    refine this.mono fun r w' ⟨A, c, h1, h2, h3⟩ => ⟨A, c, h1, own_mono h2 hs, h3⟩
  go_enter Try.func13, Try.ntmps13
  go_wp2_with fail
  refine (put2_any n h1 h2 _).mono ?_
  rintro r w1 ⟨A1, c1, rfl, ho1, hb1⟩
  have hS0 : HdS w.heap.size w1 k (.slice A1 2 c1) [n / 256, n % 256] w1.drew := by
    refine ⟨(Below.refl _ _).drew, ?_, RdB.own (base := (w.alloc (.cells #[.int .i64 n, .int .i64 k] 28)).heap.size) (own_below ho1 (Below.refl _ _).drew) ?_ (by simp [maxB])⟩
    · rw [cell_drew, hb1.cell (by simp), World.cell?_alloc_at _ _ _ _ rfl]; rfl
    · intro x hx; simp at hx; omega
  have hN : w.heap.size < w1.heap.size := by have := hb1.size; simp at this; omega
  have HS0 := Lib.hid hS0
  have HB := Lib.hid (below_then' (below_alloc (Below.refl w.heap.size w) _) hb1)
  clear hS0 hb1 ho1
  go_wp2_with fail
  go_region_held3 (fun w' => Below w1.heap.size w1 w' ∧ w'.cell? ⟨w.heap.size, 1, none⟩ = some (.int .i64 k) ∧ RdB w' (.slice A1 2 c1) [n / 256, n % 256])
    (first | exact HS0.out | exact HdS.alloc hN (by assumption) | (refine HdS.next hb hN ?_; assumption))
    (first
      | (go_at_call 44; refine (repeat_any _ _ ?_ ?_).mono ?_; (focus (first | (simp; done) | (simp; omega))); (focus (first | (rw [cell_drew, World.cell?_alloc_at _ _ _ _ rfl]; rfl) | (rw [cell_drew, World.cell?_alloc_past _ _ _ (by simp), World.cell?_alloc_at _ _ _ _ (by simp)]; rfl) | (simp [*]; done))); rintro r w' ⟨A2, c2, rfl, ho2, hb⟩)
      | (go_at_call 43; refine (CC.out _ _ ?_ ?_).mono ?_; (focus (refine RdBB.lit3 _ _ ?_ ?_ ?_ ?_ <;> first
          | (simp; done)
          | (refine HdS.rd (N := w.heap.size) (W := w1) (k := k) ?_; assumption)
          | (refine RdB.alloc ?_ _; exact RdB.own ho2 m16_bytes m16_le)
          | (refine RdB.alloc ?_ _; refine RdB.alloc ?_ _; exact RdB.own ho2 m16_bytes m16_le)
          | (refine RdB.alloc ?_ _; refine RdB.one _ _ k KB.out ?_; simp; done)
          | (refine RdB.alloc ?_ _; refine RdB.below ?_ hb; refine RdB.one _ _ k KB.out ?_; simp; done)
          | (refine RdB.alloc ?_ _; refine RdB.below ?_ hb; refine RdB.drew ?_; refine RdB.one _ _ k KB.out ?_; simp; done)
          | (refine RdB.alloc ?_ _; refine RdB.below ?_ hb; refine RdB.alloc ?_ _; refine RdB.one _ _ k KB.out ?_; simp; done)
          | (refine RdB.alloc ?_ _; refine RdB.below ?_ hb; refine RdB.drew ?_; refine RdB.alloc ?_ _; refine RdB.one _ _ k KB.out ?_; simp; done))); (focus (refine Nat.le_trans HB.out.size (HdS.bel (N := w.heap.size) (W := w1) (k := k) (v := .slice A1 2 c1) (xs := [n / 256, n % 256]) ?_).size; assumption)); rintro r w' ⟨A3, c3, rfl, ho3, hb⟩))
  all_goals go_wp2_with fail
  all_goals go_ret2
  all_goals refine ⟨_, _, rfl, ho3, below_then' HB.out (HdS.bel (N := w.heap.size) (W := w1) (k := k) (v := .slice A1 2 c1) (xs := [n / 256, n % 256]) ?_)⟩
  all_goals assumption

end Go.Proofs.Ytdiiolbkjmhmdaa
