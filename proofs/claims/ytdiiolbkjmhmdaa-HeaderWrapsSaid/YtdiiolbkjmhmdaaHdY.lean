/- The law HeaderWraps. -/
import Derived.Test.YtdiiolbkjmhmdaaHdV
import Derived.Test.YtdiiolbkjmhmdaaHdX
import Derived.Test.YtdiiolbkjmhmdaaHdK
namespace Go.Proofs.Ytdiiolbkjmhmdaa
open Go.RowKit
set_option linter.unusedSimpArgs false
set_option linter.unusedVariables false

/-- Bytes and a truth value are handed back. -/
def RdW (xs : List Int) (z : Bool) (w : World) (r : Ending) (w' : World) : Prop := ∃ A c, r = .returned (.tuple #[.slice A xs.length c, .bool z]) ∧ RdB w' (.slice A xs.length c) xs ∧ Below w.heap.size w w'
theorem OwnBT.rdw {xs : List Int} {z : Bool} {w : World} {r : Ending} {w' : World} (hx : ∀ x ∈ xs, 0 ≤ x ∧ x ≤ 255) (hl : xs.length ≤ maxB) (h : OwnBT xs z w r w') : RdW xs z w r w' := by
  obtain ⟨A, c, h1, h2, h3⟩ := h
  exact ⟨A, c, h1, RdB.own h2 hx hl, h3⟩
theorem RV.rdw {z : Bool} {w : World} {r : Ending} {w' : World} (h : RV (.tuple #[.slice none 0 0, .bool z]) w r w') : RdW [] z w r w' := by
  obtain ⟨h1, h3⟩ := h
  exact ⟨none, 0, h1, RdB.nil _ _ _ ⟨by omega, fun _ => rfl⟩, h3⟩
theorem hb_bytes {n k : Int} (h1 : 0 ≤ n) (h2 : n ≤ 65535) (h3 : 0 ≤ k) (h4 : k ≤ 255) : ∀ x ∈ hbytes n k, 0 ≤ x ∧ x ≤ 255 := fun x hx => by
  unfold hbytes at hx
  rw [List.mem_append, List.mem_append] at hx
  rcases hx with (hx | hx) | hx
  · exact m16_bytes x hx
  · simp at hx; omega
  · simp at hx; omega
theorem hb_len (n k : Int) : (hbytes n k).length = 19 := by simp [hbytes, m16]
theorem hb_mark (n k : Int) (xs : List Int) : mark ((hbytes n k ++ xs).take 16) = none := by
  have e : (hbytes n k ++ xs).take 16 = m16 := by
    unfold hbytes
    rw [List.append_assoc, List.append_assoc, List.take_append_of_le_length (by simp [m16])]
    rw [List.take_of_length_le (by simp [m16])]
  rw [e]
  exact mark_none fun j hj => by
    rw [List.getD_eq_getElem?_getD, List.getElem?_eq_getElem hj]
    exact List.eq_of_mem_replicate (List.getElem_mem hj)
theorem hb_16 (n k : Int) (xs : List Int) : (hbytes n k ++ xs).getD 16 0 = n / 256 ∧ (hbytes n k ++ xs).getD 17 0 = n % 256 ∧ (hbytes n k ++ xs).getD 18 0 = k := by
  simp [hbytes, m16, List.getD_eq_getElem?_getD, List.replicate]
theorem hb_hdr (b : Bool) (n k : Int) (xs : List Int) (h0 : 0 ≤ n) (h1 : ¬ leastK k = 0) (h2 : ¬ n < leastK k) (h3 : ¬ limitK b k < n) : hdr b (hbytes n k ++ xs) = ⟨n, k, 0, 0, 0, 0, []⟩ := by
  obtain ⟨e16, e17, e18⟩ := hb_16 n k xs
  have en : n = n / 256 * 256 + n % 256 := by omega
  rw [hdr_none (hb_mark n k xs) e16.symm e17.symm e18.symm en rfl rfl rfl]
  have hl : ¬ (hbytes n k ++ xs).length < 19 := by rw [List.length_append, hb_len]; omega
  have hr := leastK_range k
  have l19 : 19 ≤ leastK k := by unfold leastK at h1 ⊢; omega
  have lm : limitK b k ≤ mostK b := by unfold limitK mostK; cases b <;> simp <;> omega
  rw [if_neg hl, if_neg (by omega), if_neg (by omega), if_neg h1, if_neg h2, if_neg h3]

set_option maxRecDepth 100000 in
set_option maxHeartbeats 4000000 in
theorem wraps_bad (w : World) (A : Option Addr) (m cap : Nat) (h5 : ¬ 5000 < m) (k : Int) (a b c d e f : Bool) (xs ys : List Int) (hr : RdB w (.slice A m cap) xs) 
    (C1 : Hid (∀ w, RdB w (.slice A m cap) xs → Calls Try.prog 26 #[.agg #[.bool a, .bool b, .bool c, .bool d, .bool e, .bool f], .int .i64 k, .slice A m cap] w (RdW ys false w)))
    (C2 : Hid (∀ w, RdB w (.slice A m cap) xs → Calls Try.prog 27 #[.agg #[.bool a, .bool b, .bool c, .bool d, .bool e, .bool f], .int .i64 k, .slice A m cap] w (RdW ys false w))) :
    Calls Try.prog 7 #[.agg #[.bool a, .bool b, .bool c, .bool d, .bool e, .bool f], .int .i64 k, .slice A m cap] w (RB true w) := by
  have h : (m : Int) ≤ 5000 := by omega
  have HR := Lib.hid hr
  clear hr
  obtain ⟨W0, hW0⟩ : ∃ W0, W0 = w.alloc (.cells #[.bool a, .bool b, .bool c, .bool d, .bool e, .bool f] 23) := ⟨_, rfl⟩
  have HB := Lib.hid (show Below w.heap.size w W0 by rw [hW0]; exact below_alloc (Below.refl _ _) _)
  have HS := Lib.hid (show W0.heap.size = w.heap.size + 1 by rw [hW0]; simp)
  have HW := Lib.hid hW0
  obtain ⟨S, hS⟩ : ∃ S, S = fun w' => Below W0.heap.size W0 w' := ⟨_, rfl⟩
  have hSp : ∀ x, S x → Below W0.heap.size W0 x := by rw [hS]; exact fun _ h => h
  have HX := Lib.hid (show ∀ x1 x2, S x1 → Below x1.heap.size x1 x2 → S x2 from by rw [hS]; exact fun x1 x2 h hb => below_then' h hb)
  have HP := Lib.hid (show ∀ p : Wld S, Below w.heap.size w p.w from fun p => below_then' HB.out (hSp _ p.ok))
  have HSZ := Lib.hid (show ∀ p : Wld S, w.heap.size < p.w.heap.size from fun p => by have := (hSp _ p.ok).size; have := HS.out; omega)
  have H0 := Lib.hid (show S W0 by rw [hS]; exact Below.refl _ _)
  have hg : ∀ (p : Wld S) (j : Nat) (u : Value), (w.alloc (.cells #[.bool a, .bool b, .bool c, .bool d, .bool e, .bool f] 23)).cell? ⟨w.heap.size, j, none⟩ = some u → p.w.cell? ⟨w.heap.size, j, none⟩ = some u := fun p j u hu => by
    rw [(hSp _ p.ok).cell (by have := HS.out; simp; omega), hW0]; exact hu
  have g0 : ∀ p : Wld S, p.w.cell? ⟨w.heap.size, 0, none⟩ = some (.bool a) := fun p => hg p 0 _ (by rw [World.cell?_alloc_at _ _ _ _ rfl]; rfl)
  have g1 : ∀ p : Wld S, p.w.cell? ⟨w.heap.size, 1, none⟩ = some (.bool b) := fun p => hg p 1 _ (by rw [World.cell?_alloc_at _ _ _ _ rfl]; rfl)
  have g2 : ∀ p : Wld S, p.w.cell? ⟨w.heap.size, 2, none⟩ = some (.bool c) := fun p => hg p 2 _ (by rw [World.cell?_alloc_at _ _ _ _ rfl]; rfl)
  have g3 : ∀ p : Wld S, p.w.cell? ⟨w.heap.size, 3, none⟩ = some (.bool d) := fun p => hg p 3 _ (by rw [World.cell?_alloc_at _ _ _ _ rfl]; rfl)
  have g4 : ∀ p : Wld S, p.w.cell? ⟨w.heap.size, 4, none⟩ = some (.bool e) := fun p => hg p 4 _ (by rw [World.cell?_alloc_at _ _ _ _ rfl]; rfl)
  have g5 : ∀ p : Wld S, p.w.cell? ⟨w.heap.size, 5, none⟩ = some (.bool f) := fun p => hg p 5 _ (by rw [World.cell?_alloc_at _ _ _ _ rfl]; rfl)
  clear hS hSp hg hW0
  go_enter Try.func7, Try.ntmps7
  go_wp2_with fail
  rw [← HW.out]
  refine (C1.out _ (HR.out.below HB.out)).mono ?_
  rintro r w1 ⟨A1, c1, rfl, hr1, hb1⟩
  obtain ⟨l, hl⟩ : ∃ l, l = ys.length := ⟨_, rfl⟩
  rw [← hl] at hr1 ⊢
  have HL := Lib.hid hl
  clear hl
  obtain ⟨pq, hpq⟩ : ∃ p : Wld S, p.w = w1 := ⟨⟨w1, HX.out _ _ H0.out hb1⟩, rfl⟩
  subst hpq
  have HR1 := Lib.hid hr1
  clear hr1 hb1
  go_wp2_with fail
  refine (C2.out _ (HR.out.below (HP.out pq))).mono ?_
  rintro r w2 ⟨A2, c2, rfl, hr2, hb2⟩
  rw [← HL.out] at hr2 ⊢
  obtain ⟨pr, hpr⟩ : ∃ p : Wld S, p.w = w2 := ⟨⟨w2, HX.out _ _ pq.ok hb2⟩, rfl⟩
  subst hpr
  have HR1b := Lib.hid (HR1.out.below hb2)
  have HR2 := Lib.hid hr2
  clear hr2 hb2
  go_wp2_with fail
  refine (Calls.mono (equalB_any _ _ _ _ _ HR1b.out HR2.out) fun _ _ h => rb_eq h (show true = (ys == ys) by simp)).mono ?_
  rintro r w3 ⟨rfl, hb3⟩
  obtain ⟨ps, hps⟩ : ∃ p : Wld S, p.w = w3 := ⟨⟨w3, HX.out _ _ pr.ok hb3⟩, rfl⟩
  subst hps
  have HR1c := Lib.hid (HR1b.out.below hb3)
  clear hb3
  go_wp2_with fail
  refine (alive_any _).mono ?_
  rintro r w4 ⟨rfl, hb4⟩
  have HB4 := Lib.hid (below_then' (HP.out ps) hb4)
  clear hb4
  go_wp2_with fail
  go_ret
  exact ⟨rfl, HB4.out⟩

set_option maxRecDepth 100000 in
set_option maxHeartbeats 4000000 in
theorem wraps_walk (w : World) (A : Option Addr) (m cap : Nat) (h5 : ¬ 5000 < m) (k : Int) (a b c d e f : Bool) (xs ys : List Int) (hr : RdB w (.slice A m cap) xs) (n : Int) (hn : n = ys.length)
    (C1 : Hid (∀ w, RdB w (.slice A m cap) xs → Calls Try.prog 26 #[.agg #[.bool a, .bool b, .bool c, .bool d, .bool e, .bool f], .int .i64 k, .slice A m cap] w (RdW ys true w)))
    (C2 : Hid (∀ w, RdB w (.slice A m cap) xs → Calls Try.prog 27 #[.agg #[.bool a, .bool b, .bool c, .bool d, .bool e, .bool f], .int .i64 k, .slice A m cap] w (RdW ys true w)))
    (CP : Hid (∀ w A l cp, RdB w (.slice A l cp) ys → Calls Try.prog 22 #[.agg #[.bool a, .bool b, .bool c, .bool d, .bool e, .bool f], .slice A l cp] w (PP n k 0 0 0 0 [] w))) :
    Calls Try.prog 7 #[.agg #[.bool a, .bool b, .bool c, .bool d, .bool e, .bool f], .int .i64 k, .slice A m cap] w (RB true w) := by
  have h : (m : Int) ≤ 5000 := by omega
  have HR := Lib.hid hr
  clear hr
  have HN := Lib.hid hn
  clear hn
  obtain ⟨W0, hW0⟩ : ∃ W0, W0 = w.alloc (.cells #[.bool a, .bool b, .bool c, .bool d, .bool e, .bool f] 23) := ⟨_, rfl⟩
  have HB := Lib.hid (show Below w.heap.size w W0 by rw [hW0]; exact below_alloc (Below.refl _ _) _)
  have HS := Lib.hid (show W0.heap.size = w.heap.size + 1 by rw [hW0]; simp)
  have HW := Lib.hid hW0
  obtain ⟨S, hS⟩ : ∃ S, S = fun w' => Below W0.heap.size W0 w' := ⟨_, rfl⟩
  have hSp : ∀ x, S x → Below W0.heap.size W0 x := by rw [hS]; exact fun _ h => h
  have HX := Lib.hid (show ∀ x1 x2, S x1 → Below x1.heap.size x1 x2 → S x2 from by rw [hS]; exact fun x1 x2 h hb => below_then' h hb)
  have HP := Lib.hid (show ∀ p : Wld S, Below w.heap.size w p.w from fun p => below_then' HB.out (hSp _ p.ok))
  have HSZ := Lib.hid (show ∀ p : Wld S, w.heap.size < p.w.heap.size from fun p => by have := (hSp _ p.ok).size; have := HS.out; omega)
  have H0 := Lib.hid (show S W0 by rw [hS]; exact Below.refl _ _)
  have hg : ∀ (p : Wld S) (j : Nat) (u : Value), (w.alloc (.cells #[.bool a, .bool b, .bool c, .bool d, .bool e, .bool f] 23)).cell? ⟨w.heap.size, j, none⟩ = some u → p.w.cell? ⟨w.heap.size, j, none⟩ = some u := fun p j u hu => by
    rw [(hSp _ p.ok).cell (by have := HS.out; simp; omega), hW0]; exact hu
  have g0 : ∀ p : Wld S, p.w.cell? ⟨w.heap.size, 0, none⟩ = some (.bool a) := fun p => hg p 0 _ (by rw [World.cell?_alloc_at _ _ _ _ rfl]; rfl)
  have g1 : ∀ p : Wld S, p.w.cell? ⟨w.heap.size, 1, none⟩ = some (.bool b) := fun p => hg p 1 _ (by rw [World.cell?_alloc_at _ _ _ _ rfl]; rfl)
  have g2 : ∀ p : Wld S, p.w.cell? ⟨w.heap.size, 2, none⟩ = some (.bool c) := fun p => hg p 2 _ (by rw [World.cell?_alloc_at _ _ _ _ rfl]; rfl)
  have g3 : ∀ p : Wld S, p.w.cell? ⟨w.heap.size, 3, none⟩ = some (.bool d) := fun p => hg p 3 _ (by rw [World.cell?_alloc_at _ _ _ _ rfl]; rfl)
  have g4 : ∀ p : Wld S, p.w.cell? ⟨w.heap.size, 4, none⟩ = some (.bool e) := fun p => hg p 4 _ (by rw [World.cell?_alloc_at _ _ _ _ rfl]; rfl)
  have g5 : ∀ p : Wld S, p.w.cell? ⟨w.heap.size, 5, none⟩ = some (.bool f) := fun p => hg p 5 _ (by rw [World.cell?_alloc_at _ _ _ _ rfl]; rfl)
  clear hS hSp hg hW0
  go_enter Try.func7, Try.ntmps7
  go_wp2_with fail
  rw [← HW.out]
  refine (C1.out _ (HR.out.below HB.out)).mono ?_
  rintro r w1 ⟨A1, c1, rfl, hr1, hb1⟩
  obtain ⟨l, hl⟩ : ∃ l, l = ys.length := ⟨_, rfl⟩
  rw [← hl] at hr1 ⊢
  have HL := Lib.hid hl
  clear hl
  obtain ⟨pq, hpq⟩ : ∃ p : Wld S, p.w = w1 := ⟨⟨w1, HX.out _ _ H0.out hb1⟩, rfl⟩
  subst hpq
  have HR1 := Lib.hid hr1
  clear hr1 hb1
  go_wp2_with fail
  refine (C2.out _ (HR.out.below (HP.out pq))).mono ?_
  rintro r w2 ⟨A2, c2, rfl, hr2, hb2⟩
  rw [← HL.out] at hr2 ⊢
  obtain ⟨pr, hpr⟩ : ∃ p : Wld S, p.w = w2 := ⟨⟨w2, HX.out _ _ pq.ok hb2⟩, rfl⟩
  subst hpr
  have HR1b := Lib.hid (HR1.out.below hb2)
  have HR2 := Lib.hid hr2
  clear hr2 hb2
  go_wp2_with fail
  refine (Calls.mono (equalB_any _ _ _ _ _ HR1b.out HR2.out) fun _ _ h => rb_eq h (show true = (ys == ys) by simp)).mono ?_
  rintro r w3 ⟨rfl, hb3⟩
  obtain ⟨ps, hps⟩ : ∃ p : Wld S, p.w = w3 := ⟨⟨w3, HX.out _ _ pr.ok hb3⟩, rfl⟩
  subst hps
  have HR1c := Lib.hid (HR1b.out.below hb3)
  clear hb3
  go_wp2_with fail
  refine (CP.out _ _ _ _ HR1c.out).mono ?_
  rintro r w4 ⟨A5, c5, rfl, hr4, hb4⟩
  rw [List.length_nil] at hr4 ⊢
  have HR4 := Lib.hid hr4
  have HB4 := Lib.hid (below_then' (HP.out ps) hb4)
  clear hr4 hb4
  have hnl : (n == (l : Int)) = true := by rw [HN.out, HL.out]; simp
  have hnl2 : decide (n = (l : Int)) = true := by rw [HN.out, HL.out]; simp
  go_wp2_with fail
  obtain ⟨W4, hW4⟩ : ∃ W4, W4 = (w4.alloc (.cells #[.int .i64 n, .int .i64 k] 28)).alloc (.cells #[.int .i64 0, .int .i64 0, .int .i64 0, .slice A5 0 c5, .int .i64 0] 38) := ⟨_, rfl⟩
  rw [← hW4]
  have hbW : Below w4.heap.size w4 W4 := by rw [hW4]; exact below_alloc (below_alloc (Below.refl _ _) _) _
  have hsW : W4.heap.size = w4.heap.size + 2 := by rw [hW4]; simp
  have HG : Hid (∀ W, Below W4.heap.size W4 W → (W.cell? ⟨w4.heap.size, 0, none⟩ = some (.int .i64 n) ∧ W.cell? ⟨w4.heap.size, 1, none⟩ = some (.int .i64 k)) ∧
      (W.cell? ⟨w4.heap.size + 1, 0, none⟩ = some (.int .i64 0) ∧ W.cell? ⟨w4.heap.size + 1, 1, none⟩ = some (.int .i64 0) ∧ W.cell? ⟨w4.heap.size + 1, 2, none⟩ = some (.int .i64 0) ∧ W.cell? ⟨w4.heap.size + 1, 3, none⟩ = some (.slice A5 0 c5) ∧ W.cell? ⟨w4.heap.size + 1, 4, none⟩ = some (.int .i64 0))) := fun W hW => by
    have q : ∀ (B j : Nat) (u : Value), B < W4.heap.size → W4.cell? ⟨B, j, none⟩ = some u → W.cell? ⟨B, j, none⟩ = some u := fun B j u hB hc => by
      rw [hW.cell (by simp; omega)]; exact hc
    refine ⟨⟨q _ _ _ (by omega) ?_, q _ _ _ (by omega) ?_⟩, ⟨q _ _ _ (by omega) ?_, q _ _ _ (by omega) ?_, q _ _ _ (by omega) ?_, q _ _ _ (by omega) ?_, q _ _ _ (by omega) ?_⟩⟩
    iterate 2 (rw [hW4, World.cell?_alloc_past _ _ _ (by simp), World.cell?_alloc_at _ _ _ _ rfl]; rfl)
    iterate 5 (rw [hW4, World.cell?_alloc_at _ _ _ _ (by simp)]; rfl)
  have HBW := Lib.hid hbW
  clear hbW hsW hW4
  refine (alive_any _).mono ?_
  rintro r w5 ⟨rfl, hb5⟩
  have HB5 := Lib.hid hb5
  obtain ⟨⟨y0, y1⟩, ⟨r0, r1, r2, r3, r4⟩⟩ := HG.out w5 hb5
  clear hb5
  go_wp2_with fail
  refine (same_any _ 0 0 0 0 A5 none 0 c5 0 [] ((HR4.out.below HBW.out).below HB5.out) (RdB.nil _ none 0 ⟨by omega, fun _ => rfl⟩)).mono ?_
  rintro r w6 ⟨rfl, hb6⟩
  have HB6 := Lib.hid (below_then' HB5.out hb6)
  clear y0 y1 r0 r1 r2 r3 r4 hb6
  obtain ⟨⟨y0, y1⟩, -⟩ := HG.out w6 HB6.out
  go_wp2_with fail
  go_ret
  exact ⟨rfl, below_then' (below_then' HB4.out HBW.out) HB6.out⟩

set_option maxRecDepth 100000 in
theorem wraps_long (w : World) (A : Option Addr) (m cap : Nat) (h5 : 5000 < m) (k : Int) (a b c d e f : Bool) :
    Calls Try.prog 7 #[.agg #[.bool a, .bool b, .bool c, .bool d, .bool e, .bool f], .int .i64 k, .slice A m cap] w (RB true w) := by
  have h : (5000 : Int) < m := by omega
  go_enter Try.func7, Try.ntmps7
  go_wp2_with fail
  refine (alive_any _).mono ?_
  rintro r w1 ⟨rfl, hb⟩
  have HB := Lib.hid (below_then' (below_alloc (Below.refl _ _) _) hb)
  clear hb
  go_wp2_with fail
  go_ret
  exact ⟨rfl, HB.out⟩

theorem wraps_any (a b c d e f : Bool) (k : Int) (A : Option Addr) (m cap : Nat) (xs : List Int) (w : World) (hr : m ≤ maxB → RdB w (.slice A m cap) xs) :
    Calls Try.prog 7 #[.agg #[.bool a, .bool b, .bool c, .bool d, .bool e, .bool f], .int .i64 k, .slice A m cap] w (RB true w) := by
  by_cases h5 : 5000 < m
  · exact wraps_long w A m cap h5 k a b c d e f
  · have hm : m ≤ maxB := by unfold maxB; omega
    have hr' := hr hm
    have hml := hr'.len.1
    have L1 := Lib.hid (least_any k)
    have L2 := Lib.hid (refleast_any k)
    have M1 := Lib.hid (limit_any a b c d e f k)
    have M2 := Lib.hid (reflimit_any a b c d e f k)
    obtain ⟨n, hn⟩ : ∃ n : Int, n = 19 + m := ⟨_, rfl⟩
    by_cases c1 : leastK k = 0
    · exact wraps_bad w A m cap h5 k a b c d e f xs [] hr' (Lib.hid fun w _ => (wrap_b1 A m cap xs hm k a b c d e f _ _ n hn c1 L1 M1 w).mono fun _ _ => RV.rdw) (Lib.hid fun w _ => (refwrap_b1 A m cap xs hm k a b c d e f _ _ n hn c1 L2 M2 w).mono fun _ _ => RV.rdw)
    · by_cases c2 : n < leastK k
      · exact wraps_bad w A m cap h5 k a b c d e f xs [] hr' (Lib.hid fun w _ => (wrap_b2 A m cap xs hm k a b c d e f _ _ n hn c1 c2 L1 M1 w).mono fun _ _ => RV.rdw) (Lib.hid fun w _ => (refwrap_b2 A m cap xs hm k a b c d e f _ _ n hn c1 c2 L2 M2 w).mono fun _ _ => RV.rdw)
      · by_cases c3 : limitK b k < n
        · exact wraps_bad w A m cap h5 k a b c d e f xs [] hr' (Lib.hid fun w _ => (wrap_b3 A m cap xs hm k a b c d e f _ _ n hn c1 c2 c3 L1 M1 w).mono fun _ _ => RV.rdw) (Lib.hid fun w _ => (refwrap_b3 A m cap xs hm k a b c d e f _ _ n hn c1 c2 c3 L2 M2 w).mono fun _ _ => RV.rdw)
        · have hL := (limitK_range b k).2
          have hk : 0 ≤ k ∧ k ≤ 255 := by unfold leastK at c1; omega
          have hy : ∀ x ∈ hbytes n k ++ xs, 0 ≤ x ∧ x ≤ 255 := fun x hx => by
            rcases List.mem_append.1 hx with h | h
            · exact hb_bytes (by omega) (by omega) hk.1 hk.2 x h
            · exact hr'.1 x h
          have hyl : (hbytes n k ++ xs).length ≤ maxB := by rw [List.length_append, hb_len]; unfold maxB; omega
          refine wraps_walk w A m cap h5 k a b c d e f xs (hbytes n k ++ xs) hr' n (by rw [List.length_append, hb_len]; omega)
            (Lib.hid fun w h => (wrap_ok A m cap xs hm k a b c d e f _ _ n hn c1 c2 c3 hL hk L1 M1 w h).mono fun _ _ => OwnBT.rdw hy hyl)
            (Lib.hid fun w h => (refwrap_ok A m cap xs hm k a b c d e f _ _ n hn c1 c2 c3 hL hk L2 M2 w h).mono fun _ _ => OwnBT.rdw hy hyl)
            (Lib.hid fun w A l cp h => ?_)
          have := (parse_hdr w A l cp _ h a b c d e f).1 w h
          rw [hb_hdr b n k xs (by omega) c1 c2 c3] at this
          exact this

end Go.Proofs.Ytdiiolbkjmhmdaa
