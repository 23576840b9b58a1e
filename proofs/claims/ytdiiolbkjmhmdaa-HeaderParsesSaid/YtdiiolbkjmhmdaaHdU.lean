/- The law HeaderParses. -/
import Derived.Test.YtdiiolbkjmhmdaaHdT
import Derived.Test.YtdiiolbkjmhmdaaHdK
namespace Go.Proofs.Ytdiiolbkjmhmdaa
open Go.RowKit
set_option linter.unusedSimpArgs false
set_option linter.unusedVariables false

set_option maxRecDepth 100000 in
set_option maxHeartbeats 4000000 in
theorem parses_long (w : World) (A : Option Addr) (m cap : Nat) (h300 : 300 < m) (a b c d e f : Bool) :
    Calls Try.prog 4 #[.agg #[.bool a, .bool b, .bool c, .bool d, .bool e, .bool f], .slice A m cap] w (RB true w) := by
  have h : (300 : Int) < m := by omega
  go_enter Try.func4, Try.ntmps4
  go_wp2_with fail
  refine (alive_any _).mono ?_
  rintro r w1 ⟨rfl, hb⟩
  have HB := Lib.hid (below_then' (below_alloc (Below.refl _ _) _) hb)
  clear hb
  go_wp2_with fail
  go_ret
  exact ⟨rfl, HB.out⟩

set_option maxRecDepth 100000 in
set_option maxHeartbeats 4000000 in
theorem parses_walk (w : World) (A : Option Addr) (m cap : Nat) (h300 : ¬ 300 < m) (a b c d e f : Bool) (xs : List Int) (hr : RdB w (.slice A m cap) xs) (n k va vb vc ve : Int) (ds : List Int)
    (C1 : Hid (∀ w, RdB w (.slice A m cap) xs → Calls Try.prog 22 #[.agg #[.bool a, .bool b, .bool c, .bool d, .bool e, .bool f], .slice A m cap] w (PP n k va vb vc ve ds w)))
    (C2 : Hid (∀ w, RdB w (.slice A m cap) xs → Calls Try.prog 23 #[.agg #[.bool a, .bool b, .bool c, .bool d, .bool e, .bool f], .slice A m cap] w (RfP n k va vb vc ve ds w))) :
    Calls Try.prog 4 #[.agg #[.bool a, .bool b, .bool c, .bool d, .bool e, .bool f], .slice A m cap] w (RB true w) := by
  have h : (m : Int) ≤ 300 := by omega
  have HR := Lib.hid hr
  clear hr
  go_enter Try.func4, Try.ntmps4
  go_wp2_with fail
  refine (C1.out _ (HR.out.below (below_alloc (Below.refl _ _) _))).mono ?_
  rintro r w1 ⟨A1, c1, rfl, hr1, hb1⟩
  obtain ⟨l, hl⟩ : ∃ l, l = ds.length := ⟨_, rfl⟩
  rw [← hl] at hr1 ⊢
  have HL := Lib.hid hl
  clear hl
  have HR1 := Lib.hid hr1
  have HB1 := Lib.hid hb1
  have hs1 : w.heap.size + 1 ≤ w1.heap.size := by have := hb1.size; simp at this; omega
  have hs2 : w.heap.size < w1.heap.size := by omega
  have hs3 : ¬ w1.heap.size = w.heap.size := by omega
  have hg : ∀ (j : Nat) (u : Value), (w.alloc (.cells #[.bool a, .bool b, .bool c, .bool d, .bool e, .bool f] 23)).cell? ⟨w.heap.size, j, none⟩ = some u → w1.cell? ⟨w.heap.size, j, none⟩ = some u := fun j u hu => by
    rw [hb1.cell (by simp)]; exact hu
  have g0 : w1.cell? ⟨w.heap.size, 0, none⟩ = some (.bool a) := hg 0 _ (by rw [World.cell?_alloc_at _ _ _ _ rfl]; rfl)
  have g1 : w1.cell? ⟨w.heap.size, 1, none⟩ = some (.bool b) := hg 1 _ (by rw [World.cell?_alloc_at _ _ _ _ rfl]; rfl)
  have g2 : w1.cell? ⟨w.heap.size, 2, none⟩ = some (.bool c) := hg 2 _ (by rw [World.cell?_alloc_at _ _ _ _ rfl]; rfl)
  have g3 : w1.cell? ⟨w.heap.size, 3, none⟩ = some (.bool d) := hg 3 _ (by rw [World.cell?_alloc_at _ _ _ _ rfl]; rfl)
  have g4 : w1.cell? ⟨w.heap.size, 4, none⟩ = some (.bool e) := hg 4 _ (by rw [World.cell?_alloc_at _ _ _ _ rfl]; rfl)
  have g5 : w1.cell? ⟨w.heap.size, 5, none⟩ = some (.bool f) := hg 5 _ (by rw [World.cell?_alloc_at _ _ _ _ rfl]; rfl)
  clear hg hr1 hb1
  go_wp2_with fail
  obtain ⟨W1, hW1⟩ : ∃ W1, W1 = (w1.alloc (.cells #[.int .i64 n, .int .i64 k] 28)).alloc (.cells #[.int .i64 va, .int .i64 vb, .int .i64 vc, .slice A1 l c1, .int .i64 ve] 38) := ⟨_, rfl⟩
  rw [← hW1]
  have HW1 := Lib.hid hW1
  have hbW : Below w1.heap.size w1 W1 := by rw [hW1]; exact below_alloc (below_alloc (Below.refl _ _) _) _
  have HBW := Lib.hid hbW
  have hsW : W1.heap.size = w1.heap.size + 2 := by rw [hW1]; simp
  refine (C2.out _ ((HR.out.below (below_then' (below_alloc (Below.refl _ _) _) HB1.out)).below hbW)).mono ?_
  rintro r w2 ⟨A2, c2, rfl, hr2, hb2⟩
  rw [← HL.out] at hr2 ⊢
  have HR2 := Lib.hid hr2
  have HB2 := Lib.hid hb2
  have hs5 := hb2.size
  obtain ⟨W2, hW2⟩ : ∃ W2, W2 = w2.alloc (.cells #[.int .i64 va, .int .i64 vb, .int .i64 vc, .slice A2 l c2, .int .i64 ve] 38) := ⟨_, rfl⟩
  have hbW2 : Below w2.heap.size w2 W2 := by rw [hW2]; exact below_alloc (Below.refl _ _) _
  have hsW2 : W2.heap.size = w2.heap.size + 1 := by rw [hW2]; simp
  have HG : Hid (∀ W, Below W2.heap.size W2 W → (W.cell? ⟨w1.heap.size, 0, none⟩ = some (.int .i64 n) ∧ W.cell? ⟨w1.heap.size, 1, none⟩ = some (.int .i64 k)) ∧
      (W.cell? ⟨w1.heap.size + 1, 0, none⟩ = some (.int .i64 va) ∧ W.cell? ⟨w1.heap.size + 1, 1, none⟩ = some (.int .i64 vb) ∧ W.cell? ⟨w1.heap.size + 1, 2, none⟩ = some (.int .i64 vc) ∧ W.cell? ⟨w1.heap.size + 1, 3, none⟩ = some (.slice A1 l c1) ∧ W.cell? ⟨w1.heap.size + 1, 4, none⟩ = some (.int .i64 ve)) ∧
      (W.cell? ⟨w2.heap.size, 0, none⟩ = some (.int .i64 va) ∧ W.cell? ⟨w2.heap.size, 1, none⟩ = some (.int .i64 vb) ∧ W.cell? ⟨w2.heap.size, 2, none⟩ = some (.int .i64 vc) ∧ W.cell? ⟨w2.heap.size, 3, none⟩ = some (.slice A2 l c2) ∧ W.cell? ⟨w2.heap.size, 4, none⟩ = some (.int .i64 ve))) := fun W hW => by
    have q : ∀ (B j : Nat) (u : Value), B < W1.heap.size → W1.cell? ⟨B, j, none⟩ = some u → W.cell? ⟨B, j, none⟩ = some u := fun B j u hB hc => by
      rw [hW.cell (by simp; omega), hbW2.cell (by simp; omega), hb2.cell (by simp; omega)]; exact hc
    have q1 : ∀ (j : Nat) (u : Value), W2.cell? ⟨w2.heap.size, j, none⟩ = some u → W.cell? ⟨w2.heap.size, j, none⟩ = some u := fun j u hc => by
      rw [hW.cell (by simp; omega)]; exact hc
    refine ⟨⟨q _ _ _ (by omega) ?_, q _ _ _ (by omega) ?_⟩, ⟨q _ _ _ (by omega) ?_, q _ _ _ (by omega) ?_, q _ _ _ (by omega) ?_, q _ _ _ (by omega) ?_, q _ _ _ (by omega) ?_⟩, ⟨q1 _ _ ?_, q1 _ _ ?_, q1 _ _ ?_, q1 _ _ ?_, q1 _ _ ?_⟩⟩
    iterate 2 (rw [hW1, World.cell?_alloc_past _ _ _ (by simp), World.cell?_alloc_at _ _ _ _ rfl]; rfl)
    iterate 5 (rw [hW1, World.cell?_alloc_at _ _ _ _ (by simp)]; rfl)
    iterate 5 (rw [hW2, World.cell?_alloc_at _ _ _ _ rfl]; rfl)
  have HW2 := Lib.hid hW2
  have HBW2 := Lib.hid hbW2
  clear hW1 hbW hsW hr2 hb2 hs5 hbW2 hsW2 hW2 g0 g1 g2 g3 g4 g5
  go_wp2_with fail
  rw [← HW2.out]
  refine (alive_any _).mono ?_
  rintro r w3 ⟨rfl, hb3⟩
  have HB3 := Lib.hid hb3
  obtain ⟨⟨y0, y1⟩, ⟨r0, r1, r2, r3, r4⟩, ⟨s0, s1, s2, s3, s4⟩⟩ := HG.out w3 hb3
  clear hb3
  go_wp2_with fail
  refine (same_any _ va vb vc ve A1 A2 l c1 c2 ds (((HR1.out.below HBW.out).below HB2.out).below HBW2.out |>.below HB3.out) ((HR2.out.below HBW2.out).below HB3.out)).mono ?_
  rintro r w4 ⟨rfl, hb4⟩
  have HB4 := Lib.hid (below_then' HB3.out hb4)
  clear r0 r1 r2 r3 r4 s0 s1 s2 s3 s4 y0 y1 hb4
  obtain ⟨⟨y0, y1⟩, -, -⟩ := HG.out w4 HB4.out
  go_wp2_with fail
  go_ret
  exact ⟨rfl, below_then' (below_then' (below_then' (below_then' (below_then' (below_alloc (Below.refl _ _) _) HB1.out) HBW.out) HB2.out) HBW2.out) HB4.out⟩

theorem parses_any (a b c d e f : Bool) (A : Option Addr) (m cap : Nat) (xs : List Int) (w : World) (hr : m ≤ maxB → RdB w (.slice A m cap) xs) :
    Calls Try.prog 4 #[.agg #[.bool a, .bool b, .bool c, .bool d, .bool e, .bool f], .slice A m cap] w (RB true w) := by
  by_cases h : 300 < m
  · exact parses_long w A m cap h a b c d e f
  · have hr' := hr (by unfold maxB; omega)
    obtain ⟨n, k, va, vb, vc, ve, ds, h1, h2⟩ := both_parse w A m cap xs hr' a b c d e f
    exact parses_walk w A m cap h a b c d e f xs hr' n k va vb vc ve ds (Lib.hid h1) (Lib.hid h2)

end Go.Proofs.Ytdiiolbkjmhmdaa
