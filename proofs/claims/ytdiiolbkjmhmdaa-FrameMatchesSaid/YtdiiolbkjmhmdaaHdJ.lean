/- header.Wrap. -/
import Derived.Test.YtdiiolbkjmhmdaaHdI
import Derived.Test.YtdiiolbkjmhmdaaQS
namespace Go.Proofs.Ytdiiolbkjmhmdaa
open Go.RowKit
set_option linter.unusedSimpArgs false
set_option linter.unusedVariables false

/-- What holds of the options' and the header's cells within the statement. -/
def WrS (N : Nat) (W0 : World) (n k : Int) (a b c d e f : Bool) (w' : World) : Prop :=
  Below W0.heap.size W0 w' ∧ w'.cell? ⟨N + 1, 0, none⟩ = some (.int .i64 n) ∧ w'.cell? ⟨N + 1, 1, none⟩ = some (.int .i64 k) ∧ w'.cell? ⟨N, 0, none⟩ = some (.bool a) ∧ w'.cell? ⟨N, 1, none⟩ = some (.bool b) ∧ w'.cell? ⟨N, 2, none⟩ = some (.bool c) ∧ w'.cell? ⟨N, 3, none⟩ = some (.bool d) ∧ w'.cell? ⟨N, 4, none⟩ = some (.bool e) ∧ w'.cell? ⟨N, 5, none⟩ = some (.bool f)
theorem WrS.next {N : Nat} {W0 w1 w2 : World} {n k : Int} {a b c d e f : Bool} (hN : N + 2 ≤ W0.heap.size) (h : WrS N W0 n k a b c d e f w1) (hb : Below w1.heap.size w1 w2) : WrS N W0 n k a b c d e f w2 := by
  have hs := h.1.size
  have g : ∀ (B j : Nat) (v : Value), B < N + 2 → w1.cell? ⟨B, j, none⟩ = some v → w2.cell? ⟨B, j, none⟩ = some v := fun B j v hB hc => by rw [hb.cell (by simp; omega)]; exact hc
  obtain ⟨h', p0, p1, q0, q1, q2, q3, q4, q5⟩ := h
  exact ⟨below_then h' h'.size hb, g _ _ _ (by omega) p0, g _ _ _ (by omega) p1, g _ _ _ (by omega) q0, g _ _ _ (by omega) q1, g _ _ _ (by omega) q2, g _ _ _ (by omega) q3, g _ _ _ (by omega) q4, g _ _ _ (by omega) q5⟩
theorem WrS.bel {N : Nat} {W0 w1 : World} {n k : Int} {a b c d e f : Bool} (h : WrS N W0 n k a b c d e f w1) : Below W0.heap.size W0 w1 := h.1
theorem WrS.start (w : World) (n k : Int) (a b c d e f : Bool) : WrS w.heap.size ((w.alloc (.cells #[.bool a, .bool b, .bool c, .bool d, .bool e, .bool f] 23)).alloc (.cells #[.int .i64 n, .int .i64 k] 28)) n k a b c d e f (((w.alloc (.cells #[.bool a, .bool b, .bool c, .bool d, .bool e, .bool f] 23)).alloc (.cells #[.int .i64 n, .int .i64 k] 28))).drew := by
  refine ⟨(Below.refl _ _).drew, ?_, ?_, ?_, ?_, ?_, ?_, ?_, ?_⟩
  all_goals rw [cell_drew]
  · rw [World.cell?_alloc_at _ _ _ _ (by simp)]; rfl
  · rw [World.cell?_alloc_at _ _ _ _ (by simp)]; rfl
  all_goals (rw [World.cell?_alloc_past _ _ _ (by simp), World.cell?_alloc_at _ _ _ _ rfl]; rfl)

set_option maxRecDepth 100000 in
set_option maxHeartbeats 4000000 in
theorem wrap_b1 (A : Option Addr) (m cap : Nat) (xs : List Int) (hm : m ≤ maxB) (k : Int) (a b c d e f : Bool) (l L n : Int) (hn : n = 19 + m) (hl : l = 0)
    (C1 : Hid (∀ w, Calls Try.prog 19 #[.int .i64 k] w (RV (.int .i64 l) w))) (C2 : Hid (∀ w, Calls Try.prog 17 #[.agg #[.bool a, .bool b, .bool c, .bool d, .bool e, .bool f], .int .i64 k] w (RV (.int .i64 L) w))) (w : World)  :
    Calls Try.prog 26 #[.agg #[.bool a, .bool b, .bool c, .bool d, .bool e, .bool f], .int .i64 k, .slice A m cap] w (RV (.tuple #[.slice none 0 0, .bool false]) w) := by
  unfold maxB at hm
  have hw : (19 : Int) + m = n := hn.symm
  have hm1 : (0 : Int) ≤ n := by omega
  have hm2 : n ≤ 140737488351251 := by omega
  have HM := Lib.hid hn
  clear hn
  have k0 : (l == 0) = true := by simpa using hl
  clear hl
  have HS0 := Lib.hid (WrS.start w n k a b c d e f)
  obtain ⟨W0, hW0⟩ : ∃ W0, W0 = ((w.alloc (.cells #[.bool a, .bool b, .bool c, .bool d, .bool e, .bool f] 23)).alloc (.cells #[.int .i64 n, .int .i64 k] 28)) := ⟨_, rfl⟩
  have hN : w.heap.size + 2 ≤ W0.heap.size := by rw [hW0]; simp
  have HB := Lib.hid (show Below w.heap.size w W0 from hW0 ▸ below_alloc (below_alloc (Below.refl _ _) _) _)
  have HW := Lib.hid hW0
  rw [← hW0] at HS0
  clear hW0
  go_enter Try.func26, Try.ntmps26
  go_wp2_with fail
  rw [← HW.out]
  obtain ⟨S, hS⟩ : ∃ S, S = WrS w.heap.size W0 n k a b c d e f := ⟨_, rfl⟩
  have HX := Lib.hid (show ∀ w1 w2, S w1 → Below w1.heap.size w1 w2 → S w2 from hS ▸ fun w1 w2 h hb => WrS.next hN h hb)
  have h0 : ∀ p : Wld S, p.w.cell? ⟨w.heap.size + 1, 0, none⟩ = some (.int .i64 n) := hS ▸ fun p => p.ok.2.1
  have h1 : ∀ p : Wld S, p.w.cell? ⟨w.heap.size + 1, 1, none⟩ = some (.int .i64 k) := hS ▸ fun p => p.ok.2.2.1
  have g0 : ∀ p : Wld S, p.w.cell? ⟨w.heap.size, 0, none⟩ = some (.bool a) := hS ▸ fun p => p.ok.2.2.2.1
  have g1 : ∀ p : Wld S, p.w.cell? ⟨w.heap.size, 1, none⟩ = some (.bool b) := hS ▸ fun p => p.ok.2.2.2.2.1
  have g2 : ∀ p : Wld S, p.w.cell? ⟨w.heap.size, 2, none⟩ = some (.bool c) := hS ▸ fun p => p.ok.2.2.2.2.2.1
  have g3 : ∀ p : Wld S, p.w.cell? ⟨w.heap.size, 3, none⟩ = some (.bool d) := hS ▸ fun p => p.ok.2.2.2.2.2.2.1
  have g4 : ∀ p : Wld S, p.w.cell? ⟨w.heap.size, 4, none⟩ = some (.bool e) := hS ▸ fun p => p.ok.2.2.2.2.2.2.2.1
  have g5 : ∀ p : Wld S, p.w.cell? ⟨w.heap.size, 5, none⟩ = some (.bool f) := hS ▸ fun p => p.ok.2.2.2.2.2.2.2.2
  have HP := Lib.hid (show ∀ p : Wld S, Below w.heap.size w p.w from hS ▸ fun p => below_then' HB.out (WrS.bel p.ok))
  have HS := Lib.hid (show S W0.drew from hS ▸ HS0.out)
  clear hS HS0
  have hne : Nonempty (Wld S) := ⟨⟨_, HS.out⟩⟩
  refine wp_region_sub S (by kernel_rfl) (by kernel_rfl) HS.out ?_
  repeat (quiet_step (first
      | (go_at_call 19; exact calls_sub HX.out (C1.out _))
      | (go_at_call 17; exact calls_sub HX.out (C2.out _))))
  refine wpQuiet_nil ?_
  intro _ hw'
  obtain ⟨pq, hw''⟩ := hw'
  subst hw''
  go_wp2_with fail
  go_ret2
  exact ⟨rfl, HP.out pq⟩

set_option maxRecDepth 100000 in
set_option maxHeartbeats 4000000 in
theorem wrap_b2 (A : Option Addr) (m cap : Nat) (xs : List Int) (hm : m ≤ maxB) (k : Int) (a b c d e f : Bool) (l L n : Int) (hn : n = 19 + m) (hl : ¬ l = 0) (h2 : n < l)
    (C1 : Hid (∀ w, Calls Try.prog 19 #[.int .i64 k] w (RV (.int .i64 l) w))) (C2 : Hid (∀ w, Calls Try.prog 17 #[.agg #[.bool a, .bool b, .bool c, .bool d, .bool e, .bool f], .int .i64 k] w (RV (.int .i64 L) w))) (w : World)  :
    Calls Try.prog 26 #[.agg #[.bool a, .bool b, .bool c, .bool d, .bool e, .bool f], .int .i64 k, .slice A m cap] w (RV (.tuple #[.slice none 0 0, .bool false]) w) := by
  unfold maxB at hm
  have hw : (19 : Int) + m = n := hn.symm
  have hm1 : (0 : Int) ≤ n := by omega
  have hm2 : n ≤ 140737488351251 := by omega
  have HM := Lib.hid hn
  clear hn
  have k0 : (l == 0) = false := by simpa using hl
  clear hl
  have HS0 := Lib.hid (WrS.start w n k a b c d e f)
  obtain ⟨W0, hW0⟩ : ∃ W0, W0 = ((w.alloc (.cells #[.bool a, .bool b, .bool c, .bool d, .bool e, .bool f] 23)).alloc (.cells #[.int .i64 n, .int .i64 k] 28)) := ⟨_, rfl⟩
  have hN : w.heap.size + 2 ≤ W0.heap.size := by rw [hW0]; simp
  have HB := Lib.hid (show Below w.heap.size w W0 from hW0 ▸ below_alloc (below_alloc (Below.refl _ _) _) _)
  have HW := Lib.hid hW0
  rw [← hW0] at HS0
  clear hW0
  go_enter Try.func26, Try.ntmps26
  go_wp2_with fail
  rw [← HW.out]
  obtain ⟨S, hS⟩ : ∃ S, S = WrS w.heap.size W0 n k a b c d e f := ⟨_, rfl⟩
  have HX := Lib.hid (show ∀ w1 w2, S w1 → Below w1.heap.size w1 w2 → S w2 from hS ▸ fun w1 w2 h hb => WrS.next hN h hb)
  have h0 : ∀ p : Wld S, p.w.cell? ⟨w.heap.size + 1, 0, none⟩ = some (.int .i64 n) := hS ▸ fun p => p.ok.2.1
  have h1 : ∀ p : Wld S, p.w.cell? ⟨w.heap.size + 1, 1, none⟩ = some (.int .i64 k) := hS ▸ fun p => p.ok.2.2.1
  have g0 : ∀ p : Wld S, p.w.cell? ⟨w.heap.size, 0, none⟩ = some (.bool a) := hS ▸ fun p => p.ok.2.2.2.1
  have g1 : ∀ p : Wld S, p.w.cell? ⟨w.heap.size, 1, none⟩ = some (.bool b) := hS ▸ fun p => p.ok.2.2.2.2.1
  have g2 : ∀ p : Wld S, p.w.cell? ⟨w.heap.size, 2, none⟩ = some (.bool c) := hS ▸ fun p => p.ok.2.2.2.2.2.1
  have g3 : ∀ p : Wld S, p.w.cell? ⟨w.heap.size, 3, none⟩ = some (.bool d) := hS ▸ fun p => p.ok.2.2.2.2.2.2.1
  have g4 : ∀ p : Wld S, p.w.cell? ⟨w.heap.size, 4, none⟩ = some (.bool e) := hS ▸ fun p => p.ok.2.2.2.2.2.2.2.1
  have g5 : ∀ p : Wld S, p.w.cell? ⟨w.heap.size, 5, none⟩ = some (.bool f) := hS ▸ fun p => p.ok.2.2.2.2.2.2.2.2
  have HP := Lib.hid (show ∀ p : Wld S, Below w.heap.size w p.w from hS ▸ fun p => below_then' HB.out (WrS.bel p.ok))
  have HS := Lib.hid (show S W0.drew from hS ▸ HS0.out)
  clear hS HS0
  have hne : Nonempty (Wld S) := ⟨⟨_, HS.out⟩⟩
  refine wp_region_sub S (by kernel_rfl) (by kernel_rfl) HS.out ?_
  repeat (quiet_step (first
      | (go_at_call 19; exact calls_sub HX.out (C1.out _))
      | (go_at_call 17; exact calls_sub HX.out (C2.out _))))
  refine wpQuiet_nil ?_
  intro _ hw'
  obtain ⟨pq, hw''⟩ := hw'
  subst hw''
  go_wp2_with fail
  go_ret2
  exact ⟨rfl, HP.out pq⟩

set_option maxRecDepth 100000 in
set_option maxHeartbeats 4000000 in
theorem wrap_b3 (A : Option Addr) (m cap : Nat) (xs : List Int) (hm : m ≤ maxB) (k : Int) (a b c d e f : Bool) (l L n : Int) (hn : n = 19 + m) (hl : ¬ l = 0) (h2 : ¬ n < l) (h3 : L < n)
    (C1 : Hid (∀ w, Calls Try.prog 19 #[.int .i64 k] w (RV (.int .i64 l) w))) (C2 : Hid (∀ w, Calls Try.prog 17 #[.agg #[.bool a, .bool b, .bool c, .bool d, .bool e, .bool f], .int .i64 k] w (RV (.int .i64 L) w))) (w : World)  :
    Calls Try.prog 26 #[.agg #[.bool a, .bool b, .bool c, .bool d, .bool e, .bool f], .int .i64 k, .slice A m cap] w (RV (.tuple #[.slice none 0 0, .bool false]) w) := by
  unfold maxB at hm
  have hw : (19 : Int) + m = n := hn.symm
  have hm1 : (0 : Int) ≤ n := by omega
  have hm2 : n ≤ 140737488351251 := by omega
  have HM := Lib.hid hn
  clear hn
  have k0 : (l == 0) = false := by simpa using hl
  clear hl
  have HS0 := Lib.hid (WrS.start w n k a b c d e f)
  obtain ⟨W0, hW0⟩ : ∃ W0, W0 = ((w.alloc (.cells #[.bool a, .bool b, .bool c, .bool d, .bool e, .bool f] 23)).alloc (.cells #[.int .i64 n, .int .i64 k] 28)) := ⟨_, rfl⟩
  have hN : w.heap.size + 2 ≤ W0.heap.size := by rw [hW0]; simp
  have HB := Lib.hid (show Below w.heap.size w W0 from hW0 ▸ below_alloc (below_alloc (Below.refl _ _) _) _)
  have HW := Lib.hid hW0
  rw [← hW0] at HS0
  clear hW0
  go_enter Try.func26, Try.ntmps26
  go_wp2_with fail
  rw [← HW.out]
  obtain ⟨S, hS⟩ : ∃ S, S = WrS w.heap.size W0 n k a b c d e f := ⟨_, rfl⟩
  have HX := Lib.hid (show ∀ w1 w2, S w1 → Below w1.heap.size w1 w2 → S w2 from hS ▸ fun w1 w2 h hb => WrS.next hN h hb)
  have h0 : ∀ p : Wld S, p.w.cell? ⟨w.heap.size + 1, 0, none⟩ = some (.int .i64 n) := hS ▸ fun p => p.ok.2.1
  have h1 : ∀ p : Wld S, p.w.cell? ⟨w.heap.size + 1, 1, none⟩ = some (.int .i64 k) := hS ▸ fun p => p.ok.2.2.1
  have g0 : ∀ p : Wld S, p.w.cell? ⟨w.heap.size, 0, none⟩ = some (.bool a) := hS ▸ fun p => p.ok.2.2.2.1
  have g1 : ∀ p : Wld S, p.w.cell? ⟨w.heap.size, 1, none⟩ = some (.bool b) := hS ▸ fun p => p.ok.2.2.2.2.1
  have g2 : ∀ p : Wld S, p.w.cell? ⟨w.heap.size, 2, none⟩ = some (.bool c) := hS ▸ fun p => p.ok.2.2.2.2.2.1
  have g3 : ∀ p : Wld S, p.w.cell? ⟨w.heap.size, 3, none⟩ = some (.bool d) := hS ▸ fun p => p.ok.2.2.2.2.2.2.1
  have g4 : ∀ p : Wld S, p.w.cell? ⟨w.heap.size, 4, none⟩ = some (.bool e) := hS ▸ fun p => p.ok.2.2.2.2.2.2.2.1
  have g5 : ∀ p : Wld S, p.w.cell? ⟨w.heap.size, 5, none⟩ = some (.bool f) := hS ▸ fun p => p.ok.2.2.2.2.2.2.2.2
  have HP := Lib.hid (show ∀ p : Wld S, Below w.heap.size w p.w from hS ▸ fun p => below_then' HB.out (WrS.bel p.ok))
  have HS := Lib.hid (show S W0.drew from hS ▸ HS0.out)
  clear hS HS0
  have hne : Nonempty (Wld S) := ⟨⟨_, HS.out⟩⟩
  refine wp_region_sub S (by kernel_rfl) (by kernel_rfl) HS.out ?_
  repeat (quiet_step (first
      | (go_at_call 19; exact calls_sub HX.out (C1.out _))
      | (go_at_call 17; exact calls_sub HX.out (C2.out _))))
  refine wpQuiet_nil ?_
  intro _ hw'
  obtain ⟨pq, hw''⟩ := hw'
  subst hw''
  go_wp2_with fail
  go_ret2
  exact ⟨rfl, HP.out pq⟩

set_option maxRecDepth 100000 in
set_option maxHeartbeats 4000000 in
theorem wrap_ok (A : Option Addr) (m cap : Nat) (xs : List Int) (hm : m ≤ maxB) (k : Int) (a b c d e f : Bool) (l L n : Int) (hn : n = 19 + m) (hl : ¬ l = 0) (h2 : ¬ n < l) (h3 : ¬ L < n) (hL : L ≤ 65535) (hk : 0 ≤ k ∧ k ≤ 255)
    (C1 : Hid (∀ w, Calls Try.prog 19 #[.int .i64 k] w (RV (.int .i64 l) w))) (C2 : Hid (∀ w, Calls Try.prog 17 #[.agg #[.bool a, .bool b, .bool c, .bool d, .bool e, .bool f], .int .i64 k] w (RV (.int .i64 L) w))) (w : World) (hr : RdB w (.slice A m cap) xs) :
    Calls Try.prog 26 #[.agg #[.bool a, .bool b, .bool c, .bool d, .bool e, .bool f], .int .i64 k, .slice A m cap] w (OwnBT (hbytes n k ++ xs) true w) := by
  unfold maxB at hm
  have hw : (19 : Int) + m = n := hn.symm
  have hm1 : (0 : Int) ≤ n := by omega
  have hm2 : n ≤ 140737488351251 := by omega
  have HM := Lib.hid hn
  clear hn
  have k0 : (l == 0) = false := by simpa using hl
  have CB := Lib.hid (bytes_ok n k hm1 (by omega) hk.1 hk.2)
  have hxs : (hbytes n k ++ xs).length ≤ 70368744177664 := by
    obtain ⟨_, _, _, _, e, _⟩ := hr
    injection e with _ e2 _
    simp [hbytes, m16]; omega
  have CC : Hid (∀ W v, RdBB W v [hbytes n k, xs] → Calls Try.prog 43 #[v] W (OwnB (hbytes n k ++ xs) W)) := fun W v h => by
    have := cat_any W v _ h (by simpa using hxs)
    rw [show [hbytes n k, xs].flatten = hbytes n k ++ xs by simp] at this
    exact this
  have HBY := Lib.hid (show ∀ x ∈ hbytes n k, 0 ≤ x ∧ x ≤ 255 from fun x hx => by
    unfold hbytes at hx
    rw [List.mem_append, List.mem_append] at hx
    rcases hx with (hx | hx) | hx
    · exact m16_bytes x hx
    · simp at hx; omega
    · simp at hx; omega)
  have HR := Lib.hid hr
  clear hl hr hk hxs
  have HS0 := Lib.hid (WrS.start w n k a b c d e f)
  obtain ⟨W0, hW0⟩ : ∃ W0, W0 = ((w.alloc (.cells #[.bool a, .bool b, .bool c, .bool d, .bool e, .bool f] 23)).alloc (.cells #[.int .i64 n, .int .i64 k] 28)) := ⟨_, rfl⟩
  have hN : w.heap.size + 2 ≤ W0.heap.size := by rw [hW0]; simp
  have HB := Lib.hid (show Below w.heap.size w W0 from hW0 ▸ below_alloc (below_alloc (Below.refl _ _) _) _)
  have HW := Lib.hid hW0
  rw [← hW0] at HS0
  clear hW0
  go_enter Try.func26, Try.ntmps26
  go_wp2_with fail
  rw [← HW.out]
  obtain ⟨S, hS⟩ : ∃ S, S = WrS w.heap.size W0 n k a b c d e f := ⟨_, rfl⟩
  have HX := Lib.hid (show ∀ w1 w2, S w1 → Below w1.heap.size w1 w2 → S w2 from hS ▸ fun w1 w2 h hb => WrS.next hN h hb)
  have h0 : ∀ p : Wld S, p.w.cell? ⟨w.heap.size + 1, 0, none⟩ = some (.int .i64 n) := hS ▸ fun p => p.ok.2.1
  have h1 : ∀ p : Wld S, p.w.cell? ⟨w.heap.size + 1, 1, none⟩ = some (.int .i64 k) := hS ▸ fun p => p.ok.2.2.1
  have g0 : ∀ p : Wld S, p.w.cell? ⟨w.heap.size, 0, none⟩ = some (.bool a) := hS ▸ fun p => p.ok.2.2.2.1
  have g1 : ∀ p : Wld S, p.w.cell? ⟨w.heap.size, 1, none⟩ = some (.bool b) := hS ▸ fun p => p.ok.2.2.2.2.1
  have g2 : ∀ p : Wld S, p.w.cell? ⟨w.heap.size, 2, none⟩ = some (.bool c) := hS ▸ fun p => p.ok.2.2.2.2.2.1
  have g3 : ∀ p : Wld S, p.w.cell? ⟨w.heap.size, 3, none⟩ = some (.bool d) := hS ▸ fun p => p.ok.2.2.2.2.2.2.1
  have g4 : ∀ p : Wld S, p.w.cell? ⟨w.heap.size, 4, none⟩ = some (.bool e) := hS ▸ fun p => p.ok.2.2.2.2.2.2.2.1
  have g5 : ∀ p : Wld S, p.w.cell? ⟨w.heap.size, 5, none⟩ = some (.bool f) := hS ▸ fun p => p.ok.2.2.2.2.2.2.2.2
  have HP := Lib.hid (show ∀ p : Wld S, Below w.heap.size w p.w from hS ▸ fun p => below_then' HB.out (WrS.bel p.ok))
  have HS := Lib.hid (show S W0.drew from hS ▸ HS0.out)
  clear hS HS0
  have hne : Nonempty (Wld S) := ⟨⟨_, HS.out⟩⟩
  refine wp_region_sub S (by kernel_rfl) (by kernel_rfl) HS.out ?_
  repeat (quiet_step (first
      | (go_at_call 19; exact calls_sub HX.out (C1.out _))
      | (go_at_call 17; exact calls_sub HX.out (C2.out _))))
  refine wpQuiet_nil ?_
  intro _ hw'
  obtain ⟨pq, hw''⟩ := hw'
  subst hw''
  go_wp2_with fail
  refine (CB.out _).mono ?_
  rintro r w1 ⟨A1, c1, rfl, ho1, hb1⟩
  have HO1 := Lib.hid ho1
  have HB1 := Lib.hid hb1
  obtain ⟨l1, hl1⟩ : ∃ l1, l1 = (hbytes n k).length := ⟨_, rfl⟩
  have HL1 := Lib.hid hl1
  rw [← hl1] at HO1 ⊢
  clear ho1 hb1 hl1 CB
  go_wp2_with fail
  refine (CC.out _ _ ?_).mono ?_
  · refine RdBB.lit2 _ _ rfl ?_ ?_
    · refine RdB.alloc ?_ _
      have := HO1.out
      rw [HL1.out] at this ⊢
      exact RdB.own this HBY.out (by simp [hbytes, m16, maxB])
    · refine RdB.alloc ?_ _
      exact HR.out.below (below_then' (HP.out pq) HB1.out)
  rintro r w2 ⟨A3, c3, rfl, ho3, hb3⟩
  obtain ⟨l3, hl3⟩ : ∃ l3, l3 = (hbytes n k ++ xs).length := ⟨_, rfl⟩
  have HL3 := Lib.hid hl3
  rw [← hl3] at ho3 ⊢
  have HO3 := Lib.hid ho3
  have HB3 := Lib.hid hb3
  clear ho3 hb3 hl3
  go_wp2_with fail
  go_ret2
  have hs := HB1.out.size
  have hp := (HP.out pq).size
  refine ⟨A3, c3, by rw [HL3.out]; rfl, ?_, below_then' (HP.out pq) (below_then' HB1.out (below_then' (below_alloc (Below.refl _ _) _) HB3.out))⟩
  have := HO3.out
  rw [HL3.out] at this
  exact own_mono this (by simp; omega)

end Go.Proofs.Ytdiiolbkjmhmdaa
