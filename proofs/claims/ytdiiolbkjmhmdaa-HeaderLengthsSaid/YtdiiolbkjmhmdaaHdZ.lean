/- The law HeaderLengths. -/
import Derived.Test.YtdiiolbkjmhmdaaHdV
import Derived.Test.YtdiiolbkjmhmdaaHdK
namespace Go.Proofs.Ytdiiolbkjmhmdaa
open Go.RowKit
set_option linter.unusedSimpArgs false
set_option linter.unusedVariables false

set_option maxRecDepth 100000 in
set_option maxHeartbeats 1000000 in
theorem lengths_no (w : World) (A : Option Addr) (m cap : Nat) (h300 : ¬ 300 < m) (a b c d e f : Bool) (xs : List Int) (hr : RdB w (.slice A m cap) xs) (n k va vb vc ve n' k' va' vb' vc' ve' : Int) (ds ds' : List Int) (hv : ¬ va = 0)
    (C0 : Hid (∀ w, RdB w (.slice A m cap) xs → Calls Try.prog 23 #[.agg #[.bool a, .bool false, .bool c, .bool d, .bool e, .bool f], .slice A m cap] w (RfP n k va vb vc ve ds w)))
    (C1 : Hid (∀ w, RdB w (.slice A m cap) xs → Calls Try.prog 22 #[.agg #[.bool a, .bool true, .bool c, .bool d, .bool e, .bool f], .slice A m cap] w (PP n' k' va' vb' vc' ve' ds' w)))
    (C2 : Hid (∀ w, RdB w (.slice A m cap) xs → Calls Try.prog 22 #[.agg #[.bool a, .bool false, .bool c, .bool d, .bool e, .bool f], .slice A m cap] w (PP n k va vb vc ve ds w))) :
    Calls Try.prog 6 #[.agg #[.bool a, .bool b, .bool c, .bool d, .bool e, .bool f], .slice A m cap] w (RB true w) := by
  have h : (m : Int) ≤ 300 := by omega
  have HR := Lib.hid hr
  clear hr
  have v0 : (va != 0) = true := by simpa using hv
  clear hv
  go_enter Try.func6, Try.ntmps6
  go_wp2_with fail
  obtain ⟨W0, hW0⟩ : ∃ W0, W0 = (w.alloc (.cells #[.bool a, .bool false, .bool c, .bool d, .bool e, .bool f] 23)).alloc (.cells #[.bool a, .bool true, .bool c, .bool d, .bool e, .bool f] 23) := ⟨_, rfl⟩
  rw [← hW0]
  have hb0 : Below w.heap.size w W0 := by rw [hW0]; exact below_alloc (below_alloc (Below.refl _ _) _) _
  have hs0 : W0.heap.size = w.heap.size + 2 := by rw [hW0]; simp
  have o0 : ∀ (j : Nat) (u : Value), (#[.bool a, .bool false, .bool c, .bool d, .bool e, .bool f] : Array Value)[j]? = some u → W0.cell? ⟨w.heap.size, j, none⟩ = some u := fun j u hu => by
    rw [hW0, World.cell?_alloc_past _ _ _ (by simp), World.cell?_alloc_at _ _ _ _ rfl]; exact hu
  have o1 : ∀ (j : Nat) (u : Value), (#[.bool a, .bool true, .bool c, .bool d, .bool e, .bool f] : Array Value)[j]? = some u → W0.cell? ⟨w.heap.size + 1, j, none⟩ = some u := fun j u hu => by
    rw [hW0, World.cell?_alloc_at _ _ _ _ (by simp)]; exact hu
  have O0 := Lib.hid o0
  have O1 := Lib.hid o1
  have HB0 := Lib.hid hb0
  have HS0 := Lib.hid hs0
  clear hW0 hb0 hs0 o0 o1
  refine (C0.out _ (HR.out.below HB0.out)).mono ?_
  rintro r w1 ⟨A1, c1, rfl, hr1, hb1⟩
  obtain ⟨l, hl⟩ : ∃ l, l = ds.length := ⟨_, rfl⟩
  rw [← hl] at hr1 ⊢
  have HL := Lib.hid hl
  clear hl
  have HR1 := Lib.hid hr1
  have HB1 := Lib.hid hb1
  have hs1 : w.heap.size + 1 < w1.heap.size := by have := hb1.size; have := HS0.out; omega
  have k0 : w1.cell? ⟨w.heap.size + 1, 0, none⟩ = some (.bool a) := by rw [hb1.cell (by have := HS0.out; simp; omega)]; exact O1.out _ _ rfl
  have k1 : w1.cell? ⟨w.heap.size + 1, 1, none⟩ = some (.bool true) := by rw [hb1.cell (by have := HS0.out; simp; omega)]; exact O1.out _ _ rfl
  have k2 : w1.cell? ⟨w.heap.size + 1, 2, none⟩ = some (.bool c) := by rw [hb1.cell (by have := HS0.out; simp; omega)]; exact O1.out _ _ rfl
  have k3 : w1.cell? ⟨w.heap.size + 1, 3, none⟩ = some (.bool d) := by rw [hb1.cell (by have := HS0.out; simp; omega)]; exact O1.out _ _ rfl
  have k4 : w1.cell? ⟨w.heap.size + 1, 4, none⟩ = some (.bool e) := by rw [hb1.cell (by have := HS0.out; simp; omega)]; exact O1.out _ _ rfl
  have k5 : w1.cell? ⟨w.heap.size + 1, 5, none⟩ = some (.bool f) := by rw [hb1.cell (by have := HS0.out; simp; omega)]; exact O1.out _ _ rfl
  clear hr1 hb1
  go_wp2_with fail
  obtain ⟨W1, hW1⟩ : ∃ W1, W1 = w1.alloc (.cells #[.int .i64 va, .int .i64 vb, .int .i64 vc, .slice A1 l c1, .int .i64 ve] 38) := ⟨_, rfl⟩
  rw [← hW1]
  have D1 : Hid (∀ (j : Nat) (u : Value), (#[.int .i64 va, .int .i64 vb, .int .i64 vc, .slice A1 l c1, .int .i64 ve] : Array Value)[j]? = some u → W1.cell? ⟨w1.heap.size, j, none⟩ = some u) := fun j u hu => by
    rw [hW1, World.cell?_alloc_at _ _ _ _ rfl]; exact hu
  have HBW1 := Lib.hid (show Below w1.heap.size w1 W1 by rw [hW1]; exact below_alloc (Below.refl _ _) _)
  have HSW1 := Lib.hid (show W1.heap.size = w1.heap.size + 1 by rw [hW1]; simp)
  have HT1 := Lib.hid (below_then' HB1.out HBW1.out)
  have HU1 := Lib.hid hs1
  clear hW1 hs1 k0 k1 k2 k3 k4 k5
  refine (C1.out _ (HR.out.below (below_then' HB0.out HT1.out))).mono ?_
  rintro r w2 ⟨A2, c2, rfl, hr2, hb2⟩
  obtain ⟨l', hl'⟩ : ∃ l, l = ds'.length := ⟨_, rfl⟩
  rw [← hl'] at hr2 ⊢
  have HL' := Lib.hid hl'
  clear hl'
  have HR2 := Lib.hid hr2
  have HB2 := Lib.hid hb2
  have HT2 := Lib.hid (below_then' HT1.out hb2)
  have hs2 : w.heap.size < w2.heap.size := by have := hb2.size; have := HU1.out; have := HSW1.out; omega
  have hs2a : ¬ w2.heap.size = w.heap.size := by omega
  have hs2b : ¬ w2.heap.size + 1 = w.heap.size := by omega
  have k0 : w2.cell? ⟨w.heap.size, 0, none⟩ = some (.bool a) := by rw [HT2.out.cell (by have := HS0.out; simp; omega)]; exact O0.out _ _ rfl
  have k1 : w2.cell? ⟨w.heap.size, 1, none⟩ = some (.bool false) := by rw [HT2.out.cell (by have := HS0.out; simp; omega)]; exact O0.out _ _ rfl
  have k2 : w2.cell? ⟨w.heap.size, 2, none⟩ = some (.bool c) := by rw [HT2.out.cell (by have := HS0.out; simp; omega)]; exact O0.out _ _ rfl
  have k3 : w2.cell? ⟨w.heap.size, 3, none⟩ = some (.bool d) := by rw [HT2.out.cell (by have := HS0.out; simp; omega)]; exact O0.out _ _ rfl
  have k4 : w2.cell? ⟨w.heap.size, 4, none⟩ = some (.bool e) := by rw [HT2.out.cell (by have := HS0.out; simp; omega)]; exact O0.out _ _ rfl
  have k5 : w2.cell? ⟨w.heap.size, 5, none⟩ = some (.bool f) := by rw [HT2.out.cell (by have := HS0.out; simp; omega)]; exact O0.out _ _ rfl
  clear hr2 hb2
  go_wp2_with fail
  obtain ⟨W2, hW2⟩ : ∃ W2, W2 = (w2.alloc (.cells #[.int .i64 n', .int .i64 k'] 28)).alloc (.cells #[.int .i64 va', .int .i64 vb', .int .i64 vc', .slice A2 l' c2, .int .i64 ve'] 38) := ⟨_, rfl⟩
  rw [← hW2]
  have D2 : Hid (∀ (j : Nat) (u : Value), (#[.int .i64 n', .int .i64 k'] : Array Value)[j]? = some u → W2.cell? ⟨w2.heap.size, j, none⟩ = some u) := fun j u hu => by
    rw [hW2, World.cell?_alloc_past _ _ _ (by simp), World.cell?_alloc_at _ _ _ _ rfl]; exact hu
  have D3 : Hid (∀ (j : Nat) (u : Value), (#[.int .i64 va', .int .i64 vb', .int .i64 vc', .slice A2 l' c2, .int .i64 ve'] : Array Value)[j]? = some u → W2.cell? ⟨w2.heap.size + 1, j, none⟩ = some u) := fun j u hu => by
    rw [hW2, World.cell?_alloc_at _ _ _ _ (by simp)]; exact hu
  have HBW2 := Lib.hid (show Below w2.heap.size w2 W2 by rw [hW2]; exact below_alloc (below_alloc (Below.refl _ _) _) _)
  have HSW2 := Lib.hid (show W2.heap.size = w2.heap.size + 2 by rw [hW2]; simp)
  have HT3 := Lib.hid (below_then' HT2.out HBW2.out)
  clear hW2 hs2 hs2a hs2b k0 k1 k2 k3 k4 k5
  refine (C2.out _ (HR.out.below (below_then' HB0.out HT3.out))).mono ?_
  rintro r w3 ⟨A3, c3, rfl, hr3, hb3⟩
  rw [← HL.out] at hr3 ⊢
  have HR3 := Lib.hid hr3
  have HB3 := Lib.hid hb3
  clear hr3 hb3
  go_wp2_with fail
  obtain ⟨W3, hW3⟩ : ∃ W3, W3 = (w3.alloc (.cells #[.int .i64 n, .int .i64 k] 28)).alloc (.cells #[.int .i64 va, .int .i64 vb, .int .i64 vc, .slice A3 l c3, .int .i64 ve] 38) := ⟨_, rfl⟩
  rw [← hW3]
  have D4 : Hid (∀ (j : Nat) (u : Value), (#[.int .i64 n, .int .i64 k] : Array Value)[j]? = some u → W3.cell? ⟨w3.heap.size, j, none⟩ = some u) := fun j u hu => by
    rw [hW3, World.cell?_alloc_past _ _ _ (by simp), World.cell?_alloc_at _ _ _ _ rfl]; exact hu
  have D5 : Hid (∀ (j : Nat) (u : Value), (#[.int .i64 va, .int .i64 vb, .int .i64 vc, .slice A3 l c3, .int .i64 ve] : Array Value)[j]? = some u → W3.cell? ⟨w3.heap.size + 1, j, none⟩ = some u) := fun j u hu => by
    rw [hW3, World.cell?_alloc_at _ _ _ _ (by simp)]; exact hu
  have HBW3 := Lib.hid (show Below w3.heap.size w3 W3 by rw [hW3]; exact below_alloc (below_alloc (Below.refl _ _) _) _)
  have HSW3 := Lib.hid (show W3.heap.size = w3.heap.size + 2 by rw [hW3]; simp)
  clear hW3
  obtain ⟨S, hS⟩ : ∃ S, S = fun w' => Below W3.heap.size W3 w' := ⟨_, rfl⟩
  have hSp : ∀ x, S x → Below W3.heap.size W3 x := by rw [hS]; exact fun _ h => h
  have HX := Lib.hid (show ∀ x1 x2, S x1 → Below x1.heap.size x1 x2 → S x2 from by rw [hS]; exact fun x1 x2 h hb => below_then' h hb)
  have H0 := Lib.hid (show S W3 by rw [hS]; exact Below.refl _ _)
  have b3 : ∀ p : Wld S, Below W3.heap.size W3 p.w := fun p => hSp _ p.ok
  have b2 : ∀ p : Wld S, Below W2.heap.size W2 p.w := fun p => below_then' (below_then' HB3.out HBW3.out) (b3 p)
  have b1 : ∀ p : Wld S, Below W1.heap.size W1 p.w := fun p => below_then' (below_then' HB2.out HBW2.out) (b2 p)
  have b0 : ∀ p : Wld S, Below W0.heap.size W0 p.w := fun p => below_then' HT1.out (b1 p)
  have HP := Lib.hid (show ∀ p : Wld S, Below w.heap.size w p.w from fun p => below_then' HB0.out (b0 p))
  have HQ1 := Lib.hid (show ∀ p : Wld S, RdB p.w (.slice A1 l c1) ds from fun p => (HR1.out.below HBW1.out).below (b1 p))
  have HQ2 := Lib.hid (show ∀ p : Wld S, RdB p.w (.slice A2 l' c2) ds' from fun p => (HR2.out.below HBW2.out).below (b2 p))
  have HQ3 := Lib.hid (show ∀ p : Wld S, RdB p.w (.slice A3 l c3) ds from fun p => (HR3.out.below HBW3.out).below (b3 p))
  have q0 : ∀ (p : Wld S) (j : Nat) (u : Value), W0.cell? ⟨w.heap.size, j, none⟩ = some u → p.w.cell? ⟨w.heap.size, j, none⟩ = some u := fun p j u hu => by rw [(b0 p).cell (by have := HS0.out; simp; omega)]; exact hu
  have q1 : ∀ (p : Wld S) (j : Nat) (u : Value), W0.cell? ⟨w.heap.size + 1, j, none⟩ = some u → p.w.cell? ⟨w.heap.size + 1, j, none⟩ = some u := fun p j u hu => by rw [(b0 p).cell (by have := HS0.out; simp; omega)]; exact hu
  have q2 : ∀ (p : Wld S) (j : Nat) (u : Value), W1.cell? ⟨w1.heap.size, j, none⟩ = some u → p.w.cell? ⟨w1.heap.size, j, none⟩ = some u := fun p j u hu => by rw [(b1 p).cell (by have := HSW1.out; simp; omega)]; exact hu
  have q3 : ∀ (p : Wld S) (j : Nat) (u : Value), W2.cell? ⟨w2.heap.size, j, none⟩ = some u → p.w.cell? ⟨w2.heap.size, j, none⟩ = some u := fun p j u hu => by rw [(b2 p).cell (by have := HSW2.out; simp; omega)]; exact hu
  have q4 : ∀ (p : Wld S) (j : Nat) (u : Value), W2.cell? ⟨w2.heap.size + 1, j, none⟩ = some u → p.w.cell? ⟨w2.heap.size + 1, j, none⟩ = some u := fun p j u hu => by rw [(b2 p).cell (by have := HSW2.out; simp; omega)]; exact hu
  have q5 : ∀ (p : Wld S) (j : Nat) (u : Value), W3.cell? ⟨w3.heap.size, j, none⟩ = some u → p.w.cell? ⟨w3.heap.size, j, none⟩ = some u := fun p j u hu => by rw [(b3 p).cell (by have := HSW3.out; simp; omega)]; exact hu
  have q6 : ∀ (p : Wld S) (j : Nat) (u : Value), W3.cell? ⟨w3.heap.size + 1, j, none⟩ = some u → p.w.cell? ⟨w3.heap.size + 1, j, none⟩ = some u := fun p j u hu => by rw [(b3 p).cell (by have := HSW3.out; simp; omega)]; exact hu
  have ga0 : ∀ p : Wld S, p.w.cell? ⟨w.heap.size, 0, none⟩ = some (.bool a) := fun p => q0 p _ _ (O0.out _ _ rfl)
  have ga1 : ∀ p : Wld S, p.w.cell? ⟨w.heap.size, 1, none⟩ = some (.bool false) := fun p => q0 p _ _ (O0.out _ _ rfl)
  have ga2 : ∀ p : Wld S, p.w.cell? ⟨w.heap.size, 2, none⟩ = some (.bool c) := fun p => q0 p _ _ (O0.out _ _ rfl)
  have ga3 : ∀ p : Wld S, p.w.cell? ⟨w.heap.size, 3, none⟩ = some (.bool d) := fun p => q0 p _ _ (O0.out _ _ rfl)
  have ga4 : ∀ p : Wld S, p.w.cell? ⟨w.heap.size, 4, none⟩ = some (.bool e) := fun p => q0 p _ _ (O0.out _ _ rfl)
  have ga5 : ∀ p : Wld S, p.w.cell? ⟨w.heap.size, 5, none⟩ = some (.bool f) := fun p => q0 p _ _ (O0.out _ _ rfl)
  have gb0 : ∀ p : Wld S, p.w.cell? ⟨w.heap.size + 1, 0, none⟩ = some (.bool a) := fun p => q1 p _ _ (O1.out _ _ rfl)
  have gb1 : ∀ p : Wld S, p.w.cell? ⟨w.heap.size + 1, 1, none⟩ = some (.bool true) := fun p => q1 p _ _ (O1.out _ _ rfl)
  have gb2 : ∀ p : Wld S, p.w.cell? ⟨w.heap.size + 1, 2, none⟩ = some (.bool c) := fun p => q1 p _ _ (O1.out _ _ rfl)
  have gb3 : ∀ p : Wld S, p.w.cell? ⟨w.heap.size + 1, 3, none⟩ = some (.bool d) := fun p => q1 p _ _ (O1.out _ _ rfl)
  have gb4 : ∀ p : Wld S, p.w.cell? ⟨w.heap.size + 1, 4, none⟩ = some (.bool e) := fun p => q1 p _ _ (O1.out _ _ rfl)
  have gb5 : ∀ p : Wld S, p.w.cell? ⟨w.heap.size + 1, 5, none⟩ = some (.bool f) := fun p => q1 p _ _ (O1.out _ _ rfl)
  have gc0 : ∀ p : Wld S, p.w.cell? ⟨w1.heap.size, 0, none⟩ = some (.int .i64 va) := fun p => q2 p _ _ (D1.out _ _ rfl)
  have gc1 : ∀ p : Wld S, p.w.cell? ⟨w1.heap.size, 1, none⟩ = some (.int .i64 vb) := fun p => q2 p _ _ (D1.out _ _ rfl)
  have gc2 : ∀ p : Wld S, p.w.cell? ⟨w1.heap.size, 2, none⟩ = some (.int .i64 vc) := fun p => q2 p _ _ (D1.out _ _ rfl)
  have gc3 : ∀ p : Wld S, p.w.cell? ⟨w1.heap.size, 3, none⟩ = some (.slice A1 l c1) := fun p => q2 p _ _ (D1.out _ _ rfl)
  have gc4 : ∀ p : Wld S, p.w.cell? ⟨w1.heap.size, 4, none⟩ = some (.int .i64 ve) := fun p => q2 p _ _ (D1.out _ _ rfl)
  have gd0 : ∀ p : Wld S, p.w.cell? ⟨w2.heap.size, 0, none⟩ = some (.int .i64 n') := fun p => q3 p _ _ (D2.out _ _ rfl)
  have gd1 : ∀ p : Wld S, p.w.cell? ⟨w2.heap.size, 1, none⟩ = some (.int .i64 k') := fun p => q3 p _ _ (D2.out _ _ rfl)
  have ge0 : ∀ p : Wld S, p.w.cell? ⟨w2.heap.size + 1, 0, none⟩ = some (.int .i64 va') := fun p => q4 p _ _ (D3.out _ _ rfl)
  have ge1 : ∀ p : Wld S, p.w.cell? ⟨w2.heap.size + 1, 1, none⟩ = some (.int .i64 vb') := fun p => q4 p _ _ (D3.out _ _ rfl)
  have ge2 : ∀ p : Wld S, p.w.cell? ⟨w2.heap.size + 1, 2, none⟩ = some (.int .i64 vc') := fun p => q4 p _ _ (D3.out _ _ rfl)
  have ge3 : ∀ p : Wld S, p.w.cell? ⟨w2.heap.size + 1, 3, none⟩ = some (.slice A2 l' c2) := fun p => q4 p _ _ (D3.out _ _ rfl)
  have ge4 : ∀ p : Wld S, p.w.cell? ⟨w2.heap.size + 1, 4, none⟩ = some (.int .i64 ve') := fun p => q4 p _ _ (D3.out _ _ rfl)
  have gf0 : ∀ p : Wld S, p.w.cell? ⟨w3.heap.size, 0, none⟩ = some (.int .i64 n) := fun p => q5 p _ _ (D4.out _ _ rfl)
  have gf1 : ∀ p : Wld S, p.w.cell? ⟨w3.heap.size, 1, none⟩ = some (.int .i64 k) := fun p => q5 p _ _ (D4.out _ _ rfl)
  have gg0 : ∀ p : Wld S, p.w.cell? ⟨w3.heap.size + 1, 0, none⟩ = some (.int .i64 va) := fun p => q6 p _ _ (D5.out _ _ rfl)
  have gg1 : ∀ p : Wld S, p.w.cell? ⟨w3.heap.size + 1, 1, none⟩ = some (.int .i64 vb) := fun p => q6 p _ _ (D5.out _ _ rfl)
  have gg2 : ∀ p : Wld S, p.w.cell? ⟨w3.heap.size + 1, 2, none⟩ = some (.int .i64 vc) := fun p => q6 p _ _ (D5.out _ _ rfl)
  have gg3 : ∀ p : Wld S, p.w.cell? ⟨w3.heap.size + 1, 3, none⟩ = some (.slice A3 l c3) := fun p => q6 p _ _ (D5.out _ _ rfl)
  have gg4 : ∀ p : Wld S, p.w.cell? ⟨w3.heap.size + 1, 4, none⟩ = some (.int .i64 ve) := fun p => q6 p _ _ (D5.out _ _ rfl)
  clear hS hSp b0 b1 b2 b3 q0 q1 q2 q3 q4 q5 q6
  refine (alive_any _).mono ?_
  rintro r x6 ⟨rfl, hb6⟩
  obtain ⟨y1, hpr⟩ : ∃ p : Wld S, p.w = x6 := ⟨⟨x6, HX.out _ _ (H0.out) hb6⟩, rfl⟩
  subst hpr
  clear hb6
  go_wp2_with fail
  refine (same_any _ va vb vc ve A3 A1 l c3 c1 ds (HQ3.out _) (HQ1.out _)).mono ?_
  rintro r x6 ⟨rfl, hb6⟩
  obtain ⟨y2, hpr⟩ : ∃ p : Wld S, p.w = x6 := ⟨⟨x6, HX.out _ _ (y1.ok) hb6⟩, rfl⟩
  subst hpr
  clear hb6
  go_wp2_with fail
  refine (limit_any a false c d e f 2 _).mono ?_
  rintro r x6 ⟨rfl, hb6⟩
  obtain ⟨z1, hpr⟩ : ∃ p : Wld S, p.w = x6 := ⟨⟨x6, HX.out _ _ (y2.ok) hb6⟩, rfl⟩
  subst hpr
  clear hb6
  go_wp2_with fail
  refine (limit_any a true c d e f 2 _).mono ?_
  rintro r x6 ⟨rfl, hb6⟩
  obtain ⟨z2, hpr⟩ : ∃ p : Wld S, p.w = x6 := ⟨⟨x6, HX.out _ _ (z1.ok) hb6⟩, rfl⟩
  subst hpr
  clear hb6
  go_wp2_with fail
  refine (limit_any a true c d e f 1 _).mono ?_
  rintro r x6 ⟨rfl, hb6⟩
  obtain ⟨z3, hpr⟩ : ∃ p : Wld S, p.w = x6 := ⟨⟨x6, HX.out _ _ (z2.ok) hb6⟩, rfl⟩
  subst hpr
  clear hb6
  go_wp2_with fail
  go_ret
  exact ⟨rfl, HP.out z3⟩

set_option maxRecDepth 100000 in
set_option maxHeartbeats 1000000 in
theorem lengths_yes (w : World) (A : Option Addr) (m cap : Nat) (h300 : ¬ 300 < m) (a b c d e f : Bool) (xs : List Int) (hr : RdB w (.slice A m cap) xs) (n k va vb vc ve : Int) (ds : List Int) (hv : va = 0)
    (C0 : Hid (∀ w, RdB w (.slice A m cap) xs → Calls Try.prog 23 #[.agg #[.bool a, .bool false, .bool c, .bool d, .bool e, .bool f], .slice A m cap] w (RfP n k va vb vc ve ds w)))
    (C1 : Hid (∀ w, RdB w (.slice A m cap) xs → Calls Try.prog 22 #[.agg #[.bool a, .bool true, .bool c, .bool d, .bool e, .bool f], .slice A m cap] w (PP n k va vb vc ve ds w)))
    (C2 : Hid (∀ w, RdB w (.slice A m cap) xs → Calls Try.prog 22 #[.agg #[.bool a, .bool false, .bool c, .bool d, .bool e, .bool f], .slice A m cap] w (PP n k va vb vc ve ds w))) :
    Calls Try.prog 6 #[.agg #[.bool a, .bool b, .bool c, .bool d, .bool e, .bool f], .slice A m cap] w (RB true w) := by
  have h : (m : Int) ≤ 300 := by omega
  have HR := Lib.hid hr
  clear hr
  have v0 : (va != 0) = false := by simpa using hv
  clear hv
  go_enter Try.func6, Try.ntmps6
  go_wp2_with fail
  obtain ⟨W0, hW0⟩ : ∃ W0, W0 = (w.alloc (.cells #[.bool a, .bool false, .bool c, .bool d, .bool e, .bool f] 23)).alloc (.cells #[.bool a, .bool true, .bool c, .bool d, .bool e, .bool f] 23) := ⟨_, rfl⟩
  rw [← hW0]
  have hb0 : Below w.heap.size w W0 := by rw [hW0]; exact below_alloc (below_alloc (Below.refl _ _) _) _
  have hs0 : W0.heap.size = w.heap.size + 2 := by rw [hW0]; simp
  have o0 : ∀ (j : Nat) (u : Value), (#[.bool a, .bool false, .bool c, .bool d, .bool e, .bool f] : Array Value)[j]? = some u → W0.cell? ⟨w.heap.size, j, none⟩ = some u := fun j u hu => by
    rw [hW0, World.cell?_alloc_past _ _ _ (by simp), World.cell?_alloc_at _ _ _ _ rfl]; exact hu
  have o1 : ∀ (j : Nat) (u : Value), (#[.bool a, .bool true, .bool c, .bool d, .bool e, .bool f] : Array Value)[j]? = some u → W0.cell? ⟨w.heap.size + 1, j, none⟩ = some u := fun j u hu => by
    rw [hW0, World.cell?_alloc_at _ _ _ _ (by simp)]; exact hu
  have O0 := Lib.hid o0
  have O1 := Lib.hid o1
  have HB0 := Lib.hid hb0
  have HS0 := Lib.hid hs0
  clear hW0 hb0 hs0 o0 o1
  refine (C0.out _ (HR.out.below HB0.out)).mono ?_
  rintro r w1 ⟨A1, c1, rfl, hr1, hb1⟩
  obtain ⟨l, hl⟩ : ∃ l, l = ds.length := ⟨_, rfl⟩
  rw [← hl] at hr1 ⊢
  have HL := Lib.hid hl
  clear hl
  have HR1 := Lib.hid hr1
  have HB1 := Lib.hid hb1
  have hs1 : w.heap.size + 1 < w1.heap.size := by have := hb1.size; have := HS0.out; omega
  have k0 : w1.cell? ⟨w.heap.size + 1, 0, none⟩ = some (.bool a) := by rw [hb1.cell (by have := HS0.out; simp; omega)]; exact O1.out _ _ rfl
  have k1 : w1.cell? ⟨w.heap.size + 1, 1, none⟩ = some (.bool true) := by rw [hb1.cell (by have := HS0.out; simp; omega)]; exact O1.out _ _ rfl
  have k2 : w1.cell? ⟨w.heap.size + 1, 2, none⟩ = some (.bool c) := by rw [hb1.cell (by have := HS0.out; simp; omega)]; exact O1.out _ _ rfl
  have k3 : w1.cell? ⟨w.heap.size + 1, 3, none⟩ = some (.bool d) := by rw [hb1.cell (by have := HS0.out; simp; omega)]; exact O1.out _ _ rfl
  have k4 : w1.cell? ⟨w.heap.size + 1, 4, none⟩ = some (.bool e) := by rw [hb1.cell (by have := HS0.out; simp; omega)]; exact O1.out _ _ rfl
  have k5 : w1.cell? ⟨w.heap.size + 1, 5, none⟩ = some (.bool f) := by rw [hb1.cell (by have := HS0.out; simp; omega)]; exact O1.out _ _ rfl
  clear hr1 hb1
  go_wp2_with fail
  obtain ⟨W1, hW1⟩ : ∃ W1, W1 = w1.alloc (.cells #[.int .i64 va, .int .i64 vb, .int .i64 vc, .slice A1 l c1, .int .i64 ve] 38) := ⟨_, rfl⟩
  rw [← hW1]
  have D1 : Hid (∀ (j : Nat) (u : Value), (#[.int .i64 va, .int .i64 vb, .int .i64 vc, .slice A1 l c1, .int .i64 ve] : Array Value)[j]? = some u → W1.cell? ⟨w1.heap.size, j, none⟩ = some u) := fun j u hu => by
    rw [hW1, World.cell?_alloc_at _ _ _ _ rfl]; exact hu
  have HBW1 := Lib.hid (show Below w1.heap.size w1 W1 by rw [hW1]; exact below_alloc (Below.refl _ _) _)
  have HSW1 := Lib.hid (show W1.heap.size = w1.heap.size + 1 by rw [hW1]; simp)
  have HT1 := Lib.hid (below_then' HB1.out HBW1.out)
  have HU1 := Lib.hid hs1
  clear hW1 hs1 k0 k1 k2 k3 k4 k5
  refine (C1.out _ (HR.out.below (below_then' HB0.out HT1.out))).mono ?_
  rintro r w2 ⟨A2, c2, rfl, hr2, hb2⟩
  rw [← HL.out] at hr2 ⊢
  have HR2 := Lib.hid hr2
  have HB2 := Lib.hid hb2
  have HT2 := Lib.hid (below_then' HT1.out hb2)
  have hs2 : w.heap.size < w2.heap.size := by have := hb2.size; have := HU1.out; have := HSW1.out; omega
  have hs2a : ¬ w2.heap.size = w.heap.size := by omega
  have hs2b : ¬ w2.heap.size + 1 = w.heap.size := by omega
  have k0 : w2.cell? ⟨w.heap.size, 0, none⟩ = some (.bool a) := by rw [HT2.out.cell (by have := HS0.out; simp; omega)]; exact O0.out _ _ rfl
  have k1 : w2.cell? ⟨w.heap.size, 1, none⟩ = some (.bool false) := by rw [HT2.out.cell (by have := HS0.out; simp; omega)]; exact O0.out _ _ rfl
  have k2 : w2.cell? ⟨w.heap.size, 2, none⟩ = some (.bool c) := by rw [HT2.out.cell (by have := HS0.out; simp; omega)]; exact O0.out _ _ rfl
  have k3 : w2.cell? ⟨w.heap.size, 3, none⟩ = some (.bool d) := by rw [HT2.out.cell (by have := HS0.out; simp; omega)]; exact O0.out _ _ rfl
  have k4 : w2.cell? ⟨w.heap.size, 4, none⟩ = some (.bool e) := by rw [HT2.out.cell (by have := HS0.out; simp; omega)]; exact O0.out _ _ rfl
  have k5 : w2.cell? ⟨w.heap.size, 5, none⟩ = some (.bool f) := by rw [HT2.out.cell (by have := HS0.out; simp; omega)]; exact O0.out _ _ rfl
  clear hr2 hb2
  go_wp2_with fail
  obtain ⟨W2, hW2⟩ : ∃ W2, W2 = (w2.alloc (.cells #[.int .i64 n, .int .i64 k] 28)).alloc (.cells #[.int .i64 va, .int .i64 vb, .int .i64 vc, .slice A2 l c2, .int .i64 ve] 38) := ⟨_, rfl⟩
  rw [← hW2]
  have D2 : Hid (∀ (j : Nat) (u : Value), (#[.int .i64 n, .int .i64 k] : Array Value)[j]? = some u → W2.cell? ⟨w2.heap.size, j, none⟩ = some u) := fun j u hu => by
    rw [hW2, World.cell?_alloc_past _ _ _ (by simp), World.cell?_alloc_at _ _ _ _ rfl]; exact hu
  have D3 : Hid (∀ (j : Nat) (u : Value), (#[.int .i64 va, .int .i64 vb, .int .i64 vc, .slice A2 l c2, .int .i64 ve] : Array Value)[j]? = some u → W2.cell? ⟨w2.heap.size + 1, j, none⟩ = some u) := fun j u hu => by
    rw [hW2, World.cell?_alloc_at _ _ _ _ (by simp)]; exact hu
  have HBW2 := Lib.hid (show Below w2.heap.size w2 W2 by rw [hW2]; exact below_alloc (below_alloc (Below.refl _ _) _) _)
  have HSW2 := Lib.hid (show W2.heap.size = w2.heap.size + 2 by rw [hW2]; simp)
  have HT3 := Lib.hid (below_then' HT2.out HBW2.out)
  clear hW2 hs2 hs2a hs2b k0 k1 k2 k3 k4 k5
  refine (C2.out _ (HR.out.below (below_then' HB0.out HT3.out))).mono ?_
  rintro r w3 ⟨A3, c3, rfl, hr3, hb3⟩
  rw [← HL.out] at hr3 ⊢
  have HR3 := Lib.hid hr3
  have HB3 := Lib.hid hb3
  clear hr3 hb3
  go_wp2_with fail
  obtain ⟨W3, hW3⟩ : ∃ W3, W3 = (w3.alloc (.cells #[.int .i64 n, .int .i64 k] 28)).alloc (.cells #[.int .i64 va, .int .i64 vb, .int .i64 vc, .slice A3 l c3, .int .i64 ve] 38) := ⟨_, rfl⟩
  rw [← hW3]
  have D4 : Hid (∀ (j : Nat) (u : Value), (#[.int .i64 n, .int .i64 k] : Array Value)[j]? = some u → W3.cell? ⟨w3.heap.size, j, none⟩ = some u) := fun j u hu => by
    rw [hW3, World.cell?_alloc_past _ _ _ (by simp), World.cell?_alloc_at _ _ _ _ rfl]; exact hu
  have D5 : Hid (∀ (j : Nat) (u : Value), (#[.int .i64 va, .int .i64 vb, .int .i64 vc, .slice A3 l c3, .int .i64 ve] : Array Value)[j]? = some u → W3.cell? ⟨w3.heap.size + 1, j, none⟩ = some u) := fun j u hu => by
    rw [hW3, World.cell?_alloc_at _ _ _ _ (by simp)]; exact hu
  have HBW3 := Lib.hid (show Below w3.heap.size w3 W3 by rw [hW3]; exact below_alloc (below_alloc (Below.refl _ _) _) _)
  have HSW3 := Lib.hid (show W3.heap.size = w3.heap.size + 2 by rw [hW3]; simp)
  clear hW3
  obtain ⟨S, hS⟩ : ∃ S, S = fun w' => Below W3.heap.size W3 w' := ⟨_, rfl⟩
  have hSp : ∀ x, S x → Below W3.heap.size W3 x := by rw [hS]; exact fun _ h => h
  have HX := Lib.hid (show ∀ x1 x2, S x1 → Below x1.heap.size x1 x2 → S x2 from by rw [hS]; exact fun x1 x2 h hb => below_then' h hb)
  have H0 := Lib.hid (show S W3 by rw [hS]; exact Below.refl _ _)
  have b3 : ∀ p : Wld S, Below W3.heap.size W3 p.w := fun p => hSp _ p.ok
  have b2 : ∀ p : Wld S, Below W2.heap.size W2 p.w := fun p => below_then' (below_then' HB3.out HBW3.out) (b3 p)
  have b1 : ∀ p : Wld S, Below W1.heap.size W1 p.w := fun p => below_then' (below_then' HB2.out HBW2.out) (b2 p)
  have b0 : ∀ p : Wld S, Below W0.heap.size W0 p.w := fun p => below_then' HT1.out (b1 p)
  have HP := Lib.hid (show ∀ p : Wld S, Below w.heap.size w p.w from fun p => below_then' HB0.out (b0 p))
  have HQ1 := Lib.hid (show ∀ p : Wld S, RdB p.w (.slice A1 l c1) ds from fun p => (HR1.out.below HBW1.out).below (b1 p))
  have HQ2 := Lib.hid (show ∀ p : Wld S, RdB p.w (.slice A2 l c2) ds from fun p => (HR2.out.below HBW2.out).below (b2 p))
  have HQ3 := Lib.hid (show ∀ p : Wld S, RdB p.w (.slice A3 l c3) ds from fun p => (HR3.out.below HBW3.out).below (b3 p))
  have q0 : ∀ (p : Wld S) (j : Nat) (u : Value), W0.cell? ⟨w.heap.size, j, none⟩ = some u → p.w.cell? ⟨w.heap.size, j, none⟩ = some u := fun p j u hu => by rw [(b0 p).cell (by have := HS0.out; simp; omega)]; exact hu
  have q1 : ∀ (p : Wld S) (j : Nat) (u : Value), W0.cell? ⟨w.heap.size + 1, j, none⟩ = some u → p.w.cell? ⟨w.heap.size + 1, j, none⟩ = some u := fun p j u hu => by rw [(b0 p).cell (by have := HS0.out; simp; omega)]; exact hu
  have q2 : ∀ (p : Wld S) (j : Nat) (u : Value), W1.cell? ⟨w1.heap.size, j, none⟩ = some u → p.w.cell? ⟨w1.heap.size, j, none⟩ = some u := fun p j u hu => by rw [(b1 p).cell (by have := HSW1.out; simp; omega)]; exact hu
  have q3 : ∀ (p : Wld S) (j : Nat) (u : Value), W2.cell? ⟨w2.heap.size, j, none⟩ = some u → p.w.cell? ⟨w2.heap.size, j, none⟩ = some u := fun p j u hu => by rw [(b2 p).cell (by have := HSW2.out; simp; omega)]; exact hu
  have q4 : ∀ (p : Wld S) (j : Nat) (u : Value), W2.cell? ⟨w2.heap.size + 1, j, none⟩ = some u → p.w.cell? ⟨w2.heap.size + 1, j, none⟩ = some u := fun p j u hu => by rw [(b2 p).cell (by have := HSW2.out; simp; omega)]; exact hu
  have q5 : ∀ (p : Wld S) (j : Nat) (u : Value), W3.cell? ⟨w3.heap.size, j, none⟩ = some u → p.w.cell? ⟨w3.heap.size, j, none⟩ = some u := fun p j u hu => by rw [(b3 p).cell (by have := HSW3.out; simp; omega)]; exact hu
  have q6 : ∀ (p : Wld S) (j : Nat) (u : Value), W3.cell? ⟨w3.heap.size + 1, j, none⟩ = some u → p.w.cell? ⟨w3.heap.size + 1, j, none⟩ = some u := fun p j u hu => by rw [(b3 p).cell (by have := HSW3.out; simp; omega)]; exact hu
  have ga0 : ∀ p : Wld S, p.w.cell? ⟨w.heap.size, 0, none⟩ = some (.bool a) := fun p => q0 p _ _ (O0.out _ _ rfl)
  have ga1 : ∀ p : Wld S, p.w.cell? ⟨w.heap.size, 1, none⟩ = some (.bool false) := fun p => q0 p _ _ (O0.out _ _ rfl)
  have ga2 : ∀ p : Wld S, p.w.cell? ⟨w.heap.size, 2, none⟩ = some (.bool c) := fun p => q0 p _ _ (O0.out _ _ rfl)
  have ga3 : ∀ p : Wld S, p.w.cell? ⟨w.heap.size, 3, none⟩ = some (.bool d) := fun p => q0 p _ _ (O0.out _ _ rfl)
  have ga4 : ∀ p : Wld S, p.w.cell? ⟨w.heap.size, 4, none⟩ = some (.bool e) := fun p => q0 p _ _ (O0.out _ _ rfl)
  have ga5 : ∀ p : Wld S, p.w.cell? ⟨w.heap.size, 5, none⟩ = some (.bool f) := fun p => q0 p _ _ (O0.out _ _ rfl)
  have gb0 : ∀ p : Wld S, p.w.cell? ⟨w.heap.size + 1, 0, none⟩ = some (.bool a) := fun p => q1 p _ _ (O1.out _ _ rfl)
  have gb1 : ∀ p : Wld S, p.w.cell? ⟨w.heap.size + 1, 1, none⟩ = some (.bool true) := fun p => q1 p _ _ (O1.out _ _ rfl)
  have gb2 : ∀ p : Wld S, p.w.cell? ⟨w.heap.size + 1, 2, none⟩ = some (.bool c) := fun p => q1 p _ _ (O1.out _ _ rfl)
  have gb3 : ∀ p : Wld S, p.w.cell? ⟨w.heap.size + 1, 3, none⟩ = some (.bool d) := fun p => q1 p _ _ (O1.out _ _ rfl)
  have gb4 : ∀ p : Wld S, p.w.cell? ⟨w.heap.size + 1, 4, none⟩ = some (.bool e) := fun p => q1 p _ _ (O1.out _ _ rfl)
  have gb5 : ∀ p : Wld S, p.w.cell? ⟨w.heap.size + 1, 5, none⟩ = some (.bool f) := fun p => q1 p _ _ (O1.out _ _ rfl)
  have gc0 : ∀ p : Wld S, p.w.cell? ⟨w1.heap.size, 0, none⟩ = some (.int .i64 va) := fun p => q2 p _ _ (D1.out _ _ rfl)
  have gc1 : ∀ p : Wld S, p.w.cell? ⟨w1.heap.size, 1, none⟩ = some (.int .i64 vb) := fun p => q2 p _ _ (D1.out _ _ rfl)
  have gc2 : ∀ p : Wld S, p.w.cell? ⟨w1.heap.size, 2, none⟩ = some (.int .i64 vc) := fun p => q2 p _ _ (D1.out _ _ rfl)
  have gc3 : ∀ p : Wld S, p.w.cell? ⟨w1.heap.size, 3, none⟩ = some (.slice A1 l c1) := fun p => q2 p _ _ (D1.out _ _ rfl)
  have gc4 : ∀ p : Wld S, p.w.cell? ⟨w1.heap.size, 4, none⟩ = some (.int .i64 ve) := fun p => q2 p _ _ (D1.out _ _ rfl)
  have gd0 : ∀ p : Wld S, p.w.cell? ⟨w2.heap.size, 0, none⟩ = some (.int .i64 n) := fun p => q3 p _ _ (D2.out _ _ rfl)
  have gd1 : ∀ p : Wld S, p.w.cell? ⟨w2.heap.size, 1, none⟩ = some (.int .i64 k) := fun p => q3 p _ _ (D2.out _ _ rfl)
  have ge0 : ∀ p : Wld S, p.w.cell? ⟨w2.heap.size + 1, 0, none⟩ = some (.int .i64 va) := fun p => q4 p _ _ (D3.out _ _ rfl)
  have ge1 : ∀ p : Wld S, p.w.cell? ⟨w2.heap.size + 1, 1, none⟩ = some (.int .i64 vb) := fun p => q4 p _ _ (D3.out _ _ rfl)
  have ge2 : ∀ p : Wld S, p.w.cell? ⟨w2.heap.size + 1, 2, none⟩ = some (.int .i64 vc) := fun p => q4 p _ _ (D3.out _ _ rfl)
  have ge3 : ∀ p : Wld S, p.w.cell? ⟨w2.heap.size + 1, 3, none⟩ = some (.slice A2 l c2) := fun p => q4 p _ _ (D3.out _ _ rfl)
  have ge4 : ∀ p : Wld S, p.w.cell? ⟨w2.heap.size + 1, 4, none⟩ = some (.int .i64 ve) := fun p => q4 p _ _ (D3.out _ _ rfl)
  have gf0 : ∀ p : Wld S, p.w.cell? ⟨w3.heap.size, 0, none⟩ = some (.int .i64 n) := fun p => q5 p _ _ (D4.out _ _ rfl)
  have gf1 : ∀ p : Wld S, p.w.cell? ⟨w3.heap.size, 1, none⟩ = some (.int .i64 k) := fun p => q5 p _ _ (D4.out _ _ rfl)
  have gg0 : ∀ p : Wld S, p.w.cell? ⟨w3.heap.size + 1, 0, none⟩ = some (.int .i64 va) := fun p => q6 p _ _ (D5.out _ _ rfl)
  have gg1 : ∀ p : Wld S, p.w.cell? ⟨w3.heap.size + 1, 1, none⟩ = some (.int .i64 vb) := fun p => q6 p _ _ (D5.out _ _ rfl)
  have gg2 : ∀ p : Wld S, p.w.cell? ⟨w3.heap.size + 1, 2, none⟩ = some (.int .i64 vc) := fun p => q6 p _ _ (D5.out _ _ rfl)
  have gg3 : ∀ p : Wld S, p.w.cell? ⟨w3.heap.size + 1, 3, none⟩ = some (.slice A3 l c3) := fun p => q6 p _ _ (D5.out _ _ rfl)
  have gg4 : ∀ p : Wld S, p.w.cell? ⟨w3.heap.size + 1, 4, none⟩ = some (.int .i64 ve) := fun p => q6 p _ _ (D5.out _ _ rfl)
  clear hS hSp b0 b1 b2 b3 q0 q1 q2 q3 q4 q5 q6
  refine (alive_any _).mono ?_
  rintro r x6 ⟨rfl, hb6⟩
  obtain ⟨y1, hpr⟩ : ∃ p : Wld S, p.w = x6 := ⟨⟨x6, HX.out _ _ (H0.out) hb6⟩, rfl⟩
  subst hpr
  clear hb6
  go_wp2_with fail
  refine (same_any _ va vb vc ve A3 A1 l c3 c1 ds (HQ3.out _) (HQ1.out _)).mono ?_
  rintro r x6 ⟨rfl, hb6⟩
  obtain ⟨y2, hpr⟩ : ∃ p : Wld S, p.w = x6 := ⟨⟨x6, HX.out _ _ (y1.ok) hb6⟩, rfl⟩
  subst hpr
  clear hb6
  go_wp2_with fail
  refine (same_any _ va vb vc ve A2 A1 l c2 c1 ds (HQ2.out _) (HQ1.out _)).mono ?_
  rintro r x6 ⟨rfl, hb6⟩
  obtain ⟨y3, hpr⟩ : ∃ p : Wld S, p.w = x6 := ⟨⟨x6, HX.out _ _ (y2.ok) hb6⟩, rfl⟩
  subst hpr
  clear hb6
  go_wp2_with fail
  refine (limit_any a false c d e f 2 _).mono ?_
  rintro r x6 ⟨rfl, hb6⟩
  obtain ⟨z1, hpr⟩ : ∃ p : Wld S, p.w = x6 := ⟨⟨x6, HX.out _ _ (y3.ok) hb6⟩, rfl⟩
  subst hpr
  clear hb6
  go_wp2_with fail
  refine (limit_any a true c d e f 2 _).mono ?_
  rintro r x6 ⟨rfl, hb6⟩
  obtain ⟨z2, hpr⟩ : ∃ p : Wld S, p.w = x6 := ⟨⟨x6, HX.out _ _ (z1.ok) hb6⟩, rfl⟩
  subst hpr
  clear hb6
  go_wp2_with fail
  refine (limit_any a true c d e f 1 _).mono ?_
  rintro r x6 ⟨rfl, hb6⟩
  obtain ⟨z3, hpr⟩ : ∃ p : Wld S, p.w = x6 := ⟨⟨x6, HX.out _ _ (z2.ok) hb6⟩, rfl⟩
  subst hpr
  clear hb6
  go_wp2_with fail
  go_ret
  exact ⟨rfl, HP.out z3⟩

set_option maxRecDepth 100000 in
set_option maxHeartbeats 4000000 in
theorem lengths_long (w : World) (A : Option Addr) (m cap : Nat) (h300 : 300 < m) (a b c d e f : Bool) :
    Calls Try.prog 6 #[.agg #[.bool a, .bool b, .bool c, .bool d, .bool e, .bool f], .slice A m cap] w (RB true w) := by
  have h : (300 : Int) < m := by omega
  go_enter Try.func6, Try.ntmps6
  go_wp2_with fail
  refine (alive_any _).mono ?_
  rintro r w1 ⟨rfl, hb⟩
  have HB := Lib.hid (below_then' (below_alloc (Below.refl _ _) _) hb)
  clear hb
  go_wp2_with fail
  go_ret
  exact ⟨rfl, HB.out⟩

theorem lengths_any (a b c d e f : Bool) (A : Option Addr) (m cap : Nat) (xs : List Int) (w : World) (hr : m ≤ maxB → RdB w (.slice A m cap) xs) :
    Calls Try.prog 6 #[.agg #[.bool a, .bool b, .bool c, .bool d, .bool e, .bool f], .slice A m cap] w (RB true w) := by
  by_cases h : 300 < m
  · exact lengths_long w A m cap h a b c d e f
  · have hr' := hr (by unfold maxB; omega)
    have h0 := parse_hdr w A m cap xs hr' a false c d e f
    have h1 := parse_hdr w A m cap xs hr' a true c d e f
    by_cases hv : (hdr false xs).va = 0
    · rw [hdr_ext xs hv] at h1
      exact lengths_yes w A m cap h a b c d e f xs hr' _ _ _ _ _ _ _ hv (Lib.hid h0.2) (Lib.hid h1.1) (Lib.hid h0.1)
    · exact lengths_no w A m cap h a b c d e f xs hr' _ _ _ _ _ _ _ _ _ _ _ _ _ _ hv (Lib.hid h0.2) (Lib.hid h1.1) (Lib.hid h0.1)

end Go.Proofs.Ytdiiolbkjmhmdaa
