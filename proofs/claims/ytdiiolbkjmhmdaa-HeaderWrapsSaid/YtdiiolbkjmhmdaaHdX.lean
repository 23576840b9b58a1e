/- The reference's Wrap. -/
import Derived.Test.YtdiiolbkjmhmdaaHdJ
import Derived.Laws.AppendOwnNone
namespace Go.Proofs.Ytdiiolbkjmhmdaa
open Go.RowKit
set_option linter.unusedSimpArgs false
set_option linter.unusedVariables false

set_option maxRecDepth 100000 in
set_option maxHeartbeats 4000000 in
theorem refwrap_b1 (A : Option Addr) (m cap : Nat) (xs : List Int) (hm : m ≤ maxB) (k : Int) (a b c d e f : Bool) (l L n : Int) (hn : n = 19 + m) (hl : l = 0)
    (C1 : Hid (∀ w, Calls Try.prog 20 #[.int .i64 k] w (RV (.int .i64 l) w))) (C2 : Hid (∀ w, Calls Try.prog 18 #[.agg #[.bool a, .bool b, .bool c, .bool d, .bool e, .bool f], .int .i64 k] w (RV (.int .i64 L) w))) (w : World)  :
    Calls Try.prog 27 #[.agg #[.bool a, .bool b, .bool c, .bool d, .bool e, .bool f], .int .i64 k, .slice A m cap] w (RV (.tuple #[.slice none 0 0, .bool false]) w) := by
  unfold maxB at hm
  have hw : (19 : Int) + m = n := hn.symm
  have hm1 : (0 : Int) ≤ n := by omega
  have hm2 : n ≤ 140737488351251 := by omega
  have HM := Lib.hid hn
  clear hn
  have k0 : (l == 0) = true := by simpa using hl
  clear hl
  obtain ⟨W0, hW0⟩ : ∃ W0, W0 = w.alloc (.cells #[.bool a, .bool b, .bool c, .bool d, .bool e, .bool f] 23) := ⟨_, rfl⟩
  have HB := Lib.hid (show Below w.heap.size w W0 by rw [hW0]; exact below_alloc (Below.refl _ _) _)
  have HS := Lib.hid (show W0.heap.size = w.heap.size + 1 by rw [hW0]; simp)
  have HW := Lib.hid hW0
  obtain ⟨S, hS⟩ : ∃ S, S = fun w' => Below W0.heap.size W0 w' := ⟨_, rfl⟩
  have hSp : ∀ x, S x → Below W0.heap.size W0 x := by rw [hS]; exact fun _ h => h
  have HX := Lib.hid (show ∀ x1 x2, S x1 → Below x1.heap.size x1 x2 → S x2 from by rw [hS]; exact fun x1 x2 h hb => below_then' h hb)
  have HP := Lib.hid (show ∀ p : Wld S, Below w.heap.size w p.w from fun p => below_then' HB.out (hSp _ p.ok))
  have H0 := Lib.hid (show S W0 by rw [hS]; exact Below.refl _ _)
  have hg : ∀ (p : Wld S) (j : Nat) (u : Value), (w.alloc (.cells #[.bool a, .bool b, .bool c, .bool d, .bool e, .bool f] 23)).cell? ⟨w.heap.size, j, none⟩ = some u → p.w.cell? ⟨w.heap.size, j, none⟩ = some u := fun p j u hu => by
    rw [(hSp _ p.ok).cell (by have := HS.out; simp; omega), hW0]; exact hu
  have g0 : ∀ p : Wld S, p.w.cell? ⟨w.heap.size, 0, none⟩ = some (.bool a) := fun p => hg p 0 _ (by rw [World.cell?_alloc_at _ _ _ _ rfl]; rfl)
  have g1 : ∀ p : Wld S, p.w.cell? ⟨w.heap.size, 1, none⟩ = some (.bool b) := fun p => hg p 1 _ (by rw [World.cell?_alloc_at _ _ _ _ rfl]; rfl)
  have g2 : ∀ p : Wld S, p.w.cell? ⟨w.heap.size, 2, none⟩ = some (.bool c) := fun p => hg p 2 _ (by rw [World.cell?_alloc_at _ _ _ _ rfl]; rfl)
  have g3 : ∀ p : Wld S, p.w.cell? ⟨w.heap.size, 3, none⟩ = some (.bool d) := fun p => hg p 3 _ (by rw [World.cell?_alloc_at _ _ _ _ rfl]; rfl)
  have g4 : ∀ p : Wld S, p.w.cell? ⟨w.heap.size, 4, none⟩ = some (.bool e) := fun p => hg p 4 _ (by rw [World.cell?_alloc_at _ _ _ _ rfl]; rfl)
  have g5 : ∀ p : Wld S, p.w.cell? ⟨w.heap.size, 5, none⟩ = some (.bool f) := fun p => hg p 5 _ (by rw [World.cell?_alloc_at _ _ _ _ rfl]; rfl)
  clear hS hSp hg hW0
  go_enter Try.func27, Try.ntmps27
  go_wp2_with fail
  rw [← HW.out]
  refine (C1.out _).mono ?_
  rintro r w6 ⟨rfl, hb6⟩
  obtain ⟨pq, hpr⟩ : ∃ p : Wld S, p.w = w6 := ⟨⟨w6, HX.out _ _ (H0.out) hb6⟩, rfl⟩
  subst hpr
  clear hb6
  go_wp2_with fail
  go_ret2
  exact ⟨rfl, HP.out pq⟩

set_option maxRecDepth 100000 in
set_option maxHeartbeats 4000000 in
theorem refwrap_b2 (A : Option Addr) (m cap : Nat) (xs : List Int) (hm : m ≤ maxB) (k : Int) (a b c d e f : Bool) (l L n : Int) (hn : n = 19 + m) (hl : ¬ l = 0) (h2 : n < l)
    (C1 : Hid (∀ w, Calls Try.prog 20 #[.int .i64 k] w (RV (.int .i64 l) w))) (C2 : Hid (∀ w, Calls Try.prog 18 #[.agg #[.bool a, .bool b, .bool c, .bool d, .bool e, .bool f], .int .i64 k] w (RV (.int .i64 L) w))) (w : World)  :
    Calls Try.prog 27 #[.agg #[.bool a, .bool b, .bool c, .bool d, .bool e, .bool f], .int .i64 k, .slice A m cap] w (RV (.tuple #[.slice none 0 0, .bool false]) w) := by
  unfold maxB at hm
  have hw : (19 : Int) + m = n := hn.symm
  have hm1 : (0 : Int) ≤ n := by omega
  have hm2 : n ≤ 140737488351251 := by omega
  have HM := Lib.hid hn
  clear hn
  have k0 : (l == 0) = false := by simpa using hl
  clear hl
  obtain ⟨W0, hW0⟩ : ∃ W0, W0 = w.alloc (.cells #[.bool a, .bool b, .bool c, .bool d, .bool e, .bool f] 23) := ⟨_, rfl⟩
  have HB := Lib.hid (show Below w.heap.size w W0 by rw [hW0]; exact below_alloc (Below.refl _ _) _)
  have HS := Lib.hid (show W0.heap.size = w.heap.size + 1 by rw [hW0]; simp)
  have HW := Lib.hid hW0
  obtain ⟨S, hS⟩ : ∃ S, S = fun w' => Below W0.heap.size W0 w' := ⟨_, rfl⟩
  have hSp : ∀ x, S x → Below W0.heap.size W0 x := by rw [hS]; exact fun _ h => h
  have HX := Lib.hid (show ∀ x1 x2, S x1 → Below x1.heap.size x1 x2 → S x2 from by rw [hS]; exact fun x1 x2 h hb => below_then' h hb)
  have HP := Lib.hid (show ∀ p : Wld S, Below w.heap.size w p.w from fun p => below_then' HB.out (hSp _ p.ok))
  have H0 := Lib.hid (show S W0 by rw [hS]; exact Below.refl _ _)
  have hg : ∀ (p : Wld S) (j : Nat) (u : Value), (w.alloc (.cells #[.bool a, .bool b, .bool c, .bool d, .bool e, .bool f] 23)).cell? ⟨w.heap.size, j, none⟩ = some u → p.w.cell? ⟨w.heap.size, j, none⟩ = some u := fun p j u hu => by
    rw [(hSp _ p.ok).cell (by have := HS.out; simp; omega), hW0]; exact hu
  have g0 : ∀ p : Wld S, p.w.cell? ⟨w.heap.size, 0, none⟩ = some (.bool a) := fun p => hg p 0 _ (by rw [World.cell?_alloc_at _ _ _ _ rfl]; rfl)
  have g1 : ∀ p : Wld S, p.w.cell? ⟨w.heap.size, 1, none⟩ = some (.bool b) := fun p => hg p 1 _ (by rw [World.cell?_alloc_at _ _ _ _ rfl]; rfl)
  have g2 : ∀ p : Wld S, p.w.cell? ⟨w.heap.size, 2, none⟩ = some (.bool c) := fun p => hg p 2 _ (by rw [World.cell?_alloc_at _ _ _ _ rfl]; rfl)
  have g3 : ∀ p : Wld S, p.w.cell? ⟨w.heap.size, 3, none⟩ = some (.bool d) := fun p => hg p 3 _ (by rw [World.cell?_alloc_at _ _ _ _ rfl]; rfl)
  have g4 : ∀ p : Wld S, p.w.cell? ⟨w.heap.size, 4, none⟩ = some (.bool e) := fun p => hg p 4 _ (by rw [World.cell?_alloc_at _ _ _ _ rfl]; rfl)
  have g5 : ∀ p : Wld S, p.w.cell? ⟨w.heap.size, 5, none⟩ = some (.bool f) := fun p => hg p 5 _ (by rw [World.cell?_alloc_at _ _ _ _ rfl]; rfl)
  clear hS hSp hg hW0
  go_enter Try.func27, Try.ntmps27
  go_wp2_with fail
  rw [← HW.out]
  refine (C1.out _).mono ?_
  rintro r w6 ⟨rfl, hb6⟩
  obtain ⟨pq, hpr⟩ : ∃ p : Wld S, p.w = w6 := ⟨⟨w6, HX.out _ _ (H0.out) hb6⟩, rfl⟩
  subst hpr
  clear hb6
  go_wp2_with fail
  refine (C1.out _).mono ?_
  rintro r w6 ⟨rfl, hb6⟩
  obtain ⟨pr, hpr⟩ : ∃ p : Wld S, p.w = w6 := ⟨⟨w6, HX.out _ _ (pq.ok) hb6⟩, rfl⟩
  subst hpr
  clear hb6
  go_wp2_with fail
  go_ret2
  exact ⟨rfl, HP.out pr⟩

set_option maxRecDepth 100000 in
set_option maxHeartbeats 4000000 in
theorem refwrap_b3 (A : Option Addr) (m cap : Nat) (xs : List Int) (hm : m ≤ maxB) (k : Int) (a b c d e f : Bool) (l L n : Int) (hn : n = 19 + m) (hl : ¬ l = 0) (h2 : ¬ n < l) (h3 : L < n)
    (C1 : Hid (∀ w, Calls Try.prog 20 #[.int .i64 k] w (RV (.int .i64 l) w))) (C2 : Hid (∀ w, Calls Try.prog 18 #[.agg #[.bool a, .bool b, .bool c, .bool d, .bool e, .bool f], .int .i64 k] w (RV (.int .i64 L) w))) (w : World)  :
    Calls Try.prog 27 #[.agg #[.bool a, .bool b, .bool c, .bool d, .bool e, .bool f], .int .i64 k, .slice A m cap] w (RV (.tuple #[.slice none 0 0, .bool false]) w) := by
  unfold maxB at hm
  have hw : (19 : Int) + m = n := hn.symm
  have hm1 : (0 : Int) ≤ n := by omega
  have hm2 : n ≤ 140737488351251 := by omega
  have HM := Lib.hid hn
  clear hn
  have k0 : (l == 0) = false := by simpa using hl
  clear hl
  obtain ⟨W0, hW0⟩ : ∃ W0, W0 = w.alloc (.cells #[.bool a, .bool b, .bool c, .bool d, .bool e, .bool f] 23) := ⟨_, rfl⟩
  have HB := Lib.hid (show Below w.heap.size w W0 by rw [hW0]; exact below_alloc (Below.refl _ _) _)
  have HS := Lib.hid (show W0.heap.size = w.heap.size + 1 by rw [hW0]; simp)
  have HW := Lib.hid hW0
  obtain ⟨S, hS⟩ : ∃ S, S = fun w' => Below W0.heap.size W0 w' := ⟨_, rfl⟩
  have hSp : ∀ x, S x → Below W0.heap.size W0 x := by rw [hS]; exact fun _ h => h
  have HX := Lib.hid (show ∀ x1 x2, S x1 → Below x1.heap.size x1 x2 → S x2 from by rw [hS]; exact fun x1 x2 h hb => below_then' h hb)
  have HP := Lib.hid (show ∀ p : Wld S, Below w.heap.size w p.w from fun p => below_then' HB.out (hSp _ p.ok))
  have H0 := Lib.hid (show S W0 by rw [hS]; exact Below.refl _ _)
  have hg : ∀ (p : Wld S) (j : Nat) (u : Value), (w.alloc (.cells #[.bool a, .bool b, .bool c, .bool d, .bool e, .bool f] 23)).cell? ⟨w.heap.size, j, none⟩ = some u → p.w.cell? ⟨w.heap.size, j, none⟩ = some u := fun p j u hu => by
    rw [(hSp _ p.ok).cell (by have := HS.out; simp; omega), hW0]; exact hu
  have g0 : ∀ p : Wld S, p.w.cell? ⟨w.heap.size, 0, none⟩ = some (.bool a) := fun p => hg p 0 _ (by rw [World.cell?_alloc_at _ _ _ _ rfl]; rfl)
  have g1 : ∀ p : Wld S, p.w.cell? ⟨w.heap.size, 1, none⟩ = some (.bool b) := fun p => hg p 1 _ (by rw [World.cell?_alloc_at _ _ _ _ rfl]; rfl)
  have g2 : ∀ p : Wld S, p.w.cell? ⟨w.heap.size, 2, none⟩ = some (.bool c) := fun p => hg p 2 _ (by rw [World.cell?_alloc_at _ _ _ _ rfl]; rfl)
  have g3 : ∀ p : Wld S, p.w.cell? ⟨w.heap.size, 3, none⟩ = some (.bool d) := fun p => hg p 3 _ (by rw [World.cell?_alloc_at _ _ _ _ rfl]; rfl)
  have g4 : ∀ p : Wld S, p.w.cell? ⟨w.heap.size, 4, none⟩ = some (.bool e) := fun p => hg p 4 _ (by rw [World.cell?_alloc_at _ _ _ _ rfl]; rfl)
  have g5 : ∀ p : Wld S, p.w.cell? ⟨w.heap.size, 5, none⟩ = some (.bool f) := fun p => hg p 5 _ (by rw [World.cell?_alloc_at _ _ _ _ rfl]; rfl)
  clear hS hSp hg hW0
  go_enter Try.func27, Try.ntmps27
  go_wp2_with fail
  rw [← HW.out]
  refine (C1.out _).mono ?_
  rintro r w6 ⟨rfl, hb6⟩
  obtain ⟨pq, hpr⟩ : ∃ p : Wld S, p.w = w6 := ⟨⟨w6, HX.out _ _ (H0.out) hb6⟩, rfl⟩
  subst hpr
  clear hb6
  go_wp2_with fail
  refine (C1.out _).mono ?_
  rintro r w6 ⟨rfl, hb6⟩
  obtain ⟨pr, hpr⟩ : ∃ p : Wld S, p.w = w6 := ⟨⟨w6, HX.out _ _ (pq.ok) hb6⟩, rfl⟩
  subst hpr
  clear hb6
  go_wp2_with fail
  refine (C2.out _).mono ?_
  rintro r w6 ⟨rfl, hb6⟩
  obtain ⟨ps, hpr⟩ : ∃ p : Wld S, p.w = w6 := ⟨⟨w6, HX.out _ _ (pr.ok) hb6⟩, rfl⟩
  subst hpr
  clear hb6
  go_wp2_with fail
  go_ret2
  exact ⟨rfl, HP.out ps⟩

set_option maxRecDepth 100000 in
set_option maxHeartbeats 4000000 in
theorem refwrap_ok (A : Option Addr) (m cap : Nat) (xs : List Int) (hm : m ≤ maxB) (k : Int) (a b c d e f : Bool) (l L n : Int) (hn : n = 19 + m) (hl : ¬ l = 0) (h2 : ¬ n < l) (h3 : ¬ L < n) (hL : L ≤ 65535) (hk : 0 ≤ k ∧ k ≤ 255)
    (C1 : Hid (∀ w, Calls Try.prog 20 #[.int .i64 k] w (RV (.int .i64 l) w))) (C2 : Hid (∀ w, Calls Try.prog 18 #[.agg #[.bool a, .bool b, .bool c, .bool d, .bool e, .bool f], .int .i64 k] w (RV (.int .i64 L) w))) (w : World) (hr : RdB w (.slice A m cap) xs) :
    Calls Try.prog 27 #[.agg #[.bool a, .bool b, .bool c, .bool d, .bool e, .bool f], .int .i64 k, .slice A m cap] w (OwnBT (hbytes n k ++ xs) true w) := by
  unfold maxB at hm
  have hw : (19 : Int) + m = n := hn.symm
  have hm1 : (0 : Int) ≤ n := by omega
  have hm2 : n ≤ 140737488351251 := by omega
  have HM := Lib.hid hn
  clear hn
  have k0 : (l == 0) = false := by simpa using hl
  clear hl
  have CB := Lib.hid (refbytes_ok n k hm1 (by omega) hk.1 hk.2)
  have HR := Lib.hid hr
  obtain ⟨iB, hiB, hz0, hz1, hz2⟩ := info_parts Try.infoB
  have hml : m = xs.length := by
    obtain ⟨_, _, _, _, e, _⟩ := hr
    injection e
  have HML := Lib.hid hml
  have hm3 : m ≤ 65535 := by omega
  have hlen : (hbytes n k).length = 19 := by simp [hbytes, m16]
  have HLN := Lib.hid hlen
  clear hr hk hml hlen
  obtain ⟨W0, hW0⟩ : ∃ W0, W0 = w.alloc (.cells #[.bool a, .bool b, .bool c, .bool d, .bool e, .bool f] 23) := ⟨_, rfl⟩
  have HB := Lib.hid (show Below w.heap.size w W0 by rw [hW0]; exact below_alloc (Below.refl _ _) _)
  have HS := Lib.hid (show W0.heap.size = w.heap.size + 1 by rw [hW0]; simp)
  have HW := Lib.hid hW0
  obtain ⟨S, hS⟩ : ∃ S, S = fun w' => Below W0.heap.size W0 w' := ⟨_, rfl⟩
  have hSp : ∀ x, S x → Below W0.heap.size W0 x := by rw [hS]; exact fun _ h => h
  have HX := Lib.hid (show ∀ x1 x2, S x1 → Below x1.heap.size x1 x2 → S x2 from by rw [hS]; exact fun x1 x2 h hb => below_then' h hb)
  have HP := Lib.hid (show ∀ p : Wld S, Below w.heap.size w p.w from fun p => below_then' HB.out (hSp _ p.ok))
  have H0 := Lib.hid (show S W0 by rw [hS]; exact Below.refl _ _)
  have hg : ∀ (p : Wld S) (j : Nat) (u : Value), (w.alloc (.cells #[.bool a, .bool b, .bool c, .bool d, .bool e, .bool f] 23)).cell? ⟨w.heap.size, j, none⟩ = some u → p.w.cell? ⟨w.heap.size, j, none⟩ = some u := fun p j u hu => by
    rw [(hSp _ p.ok).cell (by have := HS.out; simp; omega), hW0]; exact hu
  have g0 : ∀ p : Wld S, p.w.cell? ⟨w.heap.size, 0, none⟩ = some (.bool a) := fun p => hg p 0 _ (by rw [World.cell?_alloc_at _ _ _ _ rfl]; rfl)
  have g1 : ∀ p : Wld S, p.w.cell? ⟨w.heap.size, 1, none⟩ = some (.bool b) := fun p => hg p 1 _ (by rw [World.cell?_alloc_at _ _ _ _ rfl]; rfl)
  have g2 : ∀ p : Wld S, p.w.cell? ⟨w.heap.size, 2, none⟩ = some (.bool c) := fun p => hg p 2 _ (by rw [World.cell?_alloc_at _ _ _ _ rfl]; rfl)
  have g3 : ∀ p : Wld S, p.w.cell? ⟨w.heap.size, 3, none⟩ = some (.bool d) := fun p => hg p 3 _ (by rw [World.cell?_alloc_at _ _ _ _ rfl]; rfl)
  have g4 : ∀ p : Wld S, p.w.cell? ⟨w.heap.size, 4, none⟩ = some (.bool e) := fun p => hg p 4 _ (by rw [World.cell?_alloc_at _ _ _ _ rfl]; rfl)
  have g5 : ∀ p : Wld S, p.w.cell? ⟨w.heap.size, 5, none⟩ = some (.bool f) := fun p => hg p 5 _ (by rw [World.cell?_alloc_at _ _ _ _ rfl]; rfl)
  clear hS hSp hg hW0
  go_enter Try.func27, Try.ntmps27
  go_wp2_with fail
  rw [← HW.out]
  refine (C1.out _).mono ?_
  rintro r w6 ⟨rfl, hb6⟩
  obtain ⟨pq, hpr⟩ : ∃ p : Wld S, p.w = w6 := ⟨⟨w6, HX.out _ _ (H0.out) hb6⟩, rfl⟩
  subst hpr
  clear hb6
  go_wp2_with fail
  refine (C1.out _).mono ?_
  rintro r w6 ⟨rfl, hb6⟩
  obtain ⟨pr, hpr⟩ : ∃ p : Wld S, p.w = w6 := ⟨⟨w6, HX.out _ _ (pq.ok) hb6⟩, rfl⟩
  subst hpr
  clear hb6
  go_wp2_with fail
  refine (C2.out _).mono ?_
  rintro r w6 ⟨rfl, hb6⟩
  obtain ⟨ps, hpr⟩ : ∃ p : Wld S, p.w = w6 := ⟨⟨w6, HX.out _ _ (pr.ok) hb6⟩, rfl⟩
  subst hpr
  clear hb6
  go_wp2_with fail
  refine (CB.out _).mono ?_
  rintro r w1 ⟨A1, c1, rfl, ho1, hb1⟩
  rw [HLN.out] at ho1 ⊢
  have HO1 := Lib.hid ho1
  have HB1 := Lib.hid hb1
  have HR1 := Lib.hid (HR.out.below (below_then' (HP.out ps) hb1))
  clear ho1 hb1 CB
  cases A with
  | none =>
    have hxs : xs = [] ∧ m = 0 ∧ cap = 0 := by
      obtain ⟨_, _, A', c', e, _, h4, h5⟩ := HR1.out
      injection e with e1 e2 e3
      subst e1 e3
      have : xs.length = 0 := by
        by_cases h : 0 < xs.length
        · obtain ⟨_, _, e, _⟩ := h5 h; cases e
        · omega
      exact ⟨List.eq_nil_of_length_eq_zero this, by omega, h4.2 rfl⟩
    obtain ⟨rfl, rfl, rfl⟩ := hxs
    clear HML HR HR1
    go_wp2_with (at_builtin; refine wpList_append_own_none rfl _ _ 24 rfl ps.w.heap.size 5 iB 1 Try.underlying24 hiB _ _ _ rfl HO1.out rfl ?_)
    go_ret2
    have hs := (HP.out ps).size
    refine mkOwnBT (v := .slice A1 19 c1) rfl ?_ (below_then' (HP.out ps) HB1.out)
    rw [List.append_nil, HLN.out]
    exact own_mono HO1.out hs
  | some ad =>
    have hc1 : ∀ (i : Nat) u, (bv xs)[i]? = some u → w1.cell? (ad.add i) = some u := fun i u hu => by
      obtain ⟨hi, rfl⟩ := map_get hu
      obtain ⟨_, _, A', c', e, _, h4, h5⟩ := HR1.out
      injection e with e1 e2 e3
      subst e1
      obtain ⟨g2, o2, e, hg2, hc⟩ := h5 (by omega)
      injection e with e
      subst e
      rw [add_plain']; exact hc i hi
    have HC := Lib.hid hc1
    clear hc1
    go_wp2_with (at_builtin; refine wpList_append_own _ rfl _ _ 24 rfl ps.w.heap.size 5 iB (.int .u8 0) 1 1 Try.underlying24 hiB hz0 hz1 hz2 rfl (by decide) _ _ _ rfl HO1.out ad m cap (bv xs) rfl ?c0 HC.out (u8_one _) ?c3 ?c4 ?c5 ?_)
    case c0 => rw [bv_length, ← HML.out, Nat.mul_one]
    case c3 => unfold maxLen; omega
    case c4 => omega
    case c5 => exact HB1.out.size
    intro v' w2 hown' hgrow _
    have HO2 := Lib.hid hown'
    have HG2 := Lib.hid hgrow
    clear hown' hgrow
    go_wp2_with fail
    go_ret2
    have hs := (HP.out ps).size
    have hf : (hbytes n k ++ xs).length = 19 + m := by rw [List.length_append, HLN.out, HML.out]
    refine mkOwnBT rfl ?_ (below_then' (HP.out ps) (HB1.out.grown HG2.out HB1.out.size (fun k hk => (HO1.out.lt k hk).1)))
    rw [hf, bv_append]
    exact own_mono HO2.out hs

end Go.Proofs.Ytdiiolbkjmhmdaa
