/- The law HeaderForms. -/
import Derived.Test.YtdiiolbkjmhmdaaHdK
namespace Go.Proofs.Ytdiiolbkjmhmdaa
open Go.RowKit
set_option linter.unusedSimpArgs false
set_option linter.unusedVariables false

def RdT (xs : List Int) (z : Bool) (w : World) (r : Ending) (w' : World) : Prop := ∃ A c, r = .returned (.tuple #[.slice A xs.length c, .bool z]) ∧ RdB w' (.slice A xs.length c) xs ∧ Below w.heap.size w w'
theorem OwnBT.rd {xs : List Int} {z : Bool} {w : World} {r : Ending} {w' : World} (hx : ∀ x ∈ xs, 0 ≤ x ∧ x ≤ 255) (hl : xs.length ≤ maxB) (h : OwnBT xs z w r w') : RdT xs z w r w' := by
  obtain ⟨A, c, h1, h2, h3⟩ := h
  exact ⟨A, c, h1, RdB.own h2 hx hl, h3⟩
theorem RV.rd {z : Bool} {w : World} {r : Ending} {w' : World} (h : RV (.tuple #[.slice none 0 0, .bool z]) w r w') : RdT [] z w r w' := by
  obtain ⟨h1, h3⟩ := h
  exact ⟨none, 0, h1, RdB.nil _ _ _ ⟨by omega, fun _ => rfl⟩, h3⟩
theorem hbytes_bytes {n k : Int} (h1 : 0 ≤ n) (h2 : n ≤ 65535) (h3 : 0 ≤ k) (h4 : k ≤ 255) : ∀ x ∈ hbytes n k, 0 ≤ x ∧ x ≤ 255 := fun x hx => by
  unfold hbytes at hx
  rw [List.mem_append, List.mem_append] at hx
  rcases hx with (hx | hx) | hx
  · exact m16_bytes x hx
  · simp at hx; omega
  · simp at hx; omega
theorem hbytes_len (n k : Int) : (hbytes n k).length = 19 := by simp [hbytes, m16]
theorem both_bytes (n k : Int) : ∃ xs z, (∀ w, Calls Try.prog 13 #[.agg #[.int .i64 n, .int .i64 k]] w (RdT xs z w)) ∧ (∀ w, Calls Try.prog 14 #[.int .i64 n, .int .i64 k] w (RdT xs z w)) := by
  by_cases h : n < 0 ∨ 65535 < n ∨ k < 0 ∨ 255 < k
  · exact ⟨[], false, fun w => (bytes_bad n k h w).mono fun _ _ => RV.rd, fun w => (refbytes_bad n k h w).mono fun _ _ => RV.rd⟩
  · have h1 : 0 ≤ n := by omega
    have h2 : n ≤ 65535 := by omega
    have h3 : 0 ≤ k := by omega
    have h4 : k ≤ 255 := by omega
    exact ⟨hbytes n k, true, fun w => (bytes_ok n k h1 h2 h3 h4 w).mono fun _ _ => OwnBT.rd (hbytes_bytes h1 h2 h3 h4) (by rw [hbytes_len]; simp [maxB]), fun w => (refbytes_ok n k h1 h2 h3 h4 w).mono fun _ _ => OwnBT.rd (hbytes_bytes h1 h2 h3 h4) (by rw [hbytes_len]; simp [maxB])⟩
theorem eq_self (xs : List Int) : (xs == xs) = true := by simp

set_option maxRecDepth 100000 in
set_option maxHeartbeats 4000000 in
theorem forms_0a (n k : Int) (xs : List Int) (z : Bool) (a b c d e f : Bool) (l L : Int) (hk : k < 1)
    (C1 : Hid (∀ w, Calls Try.prog 19 #[.int .i64 k] w (RV (.int .i64 l) w))) (C1' : Hid (∀ w, Calls Try.prog 20 #[.int .i64 k] w (RV (.int .i64 l) w)))
    (C2 : Hid (∀ w, Calls Try.prog 17 #[.agg #[.bool a, .bool b, .bool c, .bool d, .bool e, .bool f], .int .i64 k] w (RV (.int .i64 L) w))) (C2' : Hid (∀ w, Calls Try.prog 18 #[.agg #[.bool a, .bool b, .bool c, .bool d, .bool e, .bool f], .int .i64 k] w (RV (.int .i64 L) w)))
    (C3 : Hid (∀ w, Calls Try.prog 13 #[.agg #[.int .i64 n, .int .i64 k]] w (RdT xs z w))) (C3' : Hid (∀ w, Calls Try.prog 14 #[.int .i64 n, .int .i64 k] w (RdT xs z w)))
    (w : World) : Calls Try.prog 3 #[.agg #[.bool a, .bool b, .bool c, .bool d, .bool e, .bool f], .int .i64 n, .int .i64 k] w (RB true w) := by
  go_enter Try.func3, Try.ntmps3
  go_wp2_with fail
  refine (C3.out _).mono ?_
  rintro r w1 ⟨A1, c1, rfl, hr1, hb1⟩
  have HR1 := Lib.hid hr1
  have HB1 := Lib.hid hb1
  obtain ⟨m, hm⟩ : ∃ m, m = xs.length := ⟨_, rfl⟩
  rw [← hm] at HR1 ⊢
  clear hr1 hb1
  go_wp2_with fail
  refine (C3'.out _).mono ?_
  rintro r w2 ⟨A2, c2, rfl, hr2, hb2⟩
  have HR2 := Lib.hid hr2
  have HB2 := Lib.hid hb2
  rw [← hm] at HR2 ⊢
  clear hr2 hb2 hm
  go_wp2_with fail
  skip
  obtain ⟨W3, hW3⟩ : ∃ W3, W3 = w2 := ⟨_, rfl⟩
  rw [← hW3]
  have hb3 : Below w2.heap.size w2 W3 := by rw [hW3]; exact Below.refl _ _
  have HB := Lib.hid (below_then' (below_then' (below_then' (below_alloc (Below.refl w.heap.size w) (.cells #[.bool a, .bool b, .bool c, .bool d, .bool e, .bool f] 23)) HB1.out) HB2.out) hb3)
  have hs1 := HB1.out.size
  have hs2 := HB2.out.size
  obtain ⟨S, hS⟩ : ∃ S, S = fun w' => Below W3.heap.size W3 w' := ⟨_, rfl⟩
  have hSp : ∀ x, S x → Below W3.heap.size W3 x := by rw [hS]; exact fun _ h => h
  have HX := Lib.hid (show ∀ x1 x2, S x1 → Below x1.heap.size x1 x2 → S x2 from by rw [hS]; exact fun x1 x2 h hb => below_then' h hb)
  have HQ1 := Lib.hid (show ∀ p : Wld S, RdB p.w (.slice A1 m c1) xs from fun p => ((HR1.out.below HB2.out).below hb3).below (hSp _ p.ok))
  have HQ2 := Lib.hid (show ∀ p : Wld S, RdB p.w (.slice A2 m c2) xs from fun p => (HR2.out.below hb3).below (hSp _ p.ok))
  have hg : ∀ (p : Wld S) (j : Nat) (u : Value), (w.alloc (.cells #[.bool a, .bool b, .bool c, .bool d, .bool e, .bool f] 23)).cell? ⟨w.heap.size, j, none⟩ = some u → p.w.cell? ⟨w.heap.size, j, none⟩ = some u := fun p j u hu => by
    rw [(hSp _ p.ok).cell (by have := hb3.size; simp at hs1 ⊢; omega), hb3.cell (by simp at hs1 ⊢; omega), HB2.out.cell (by simp at hs1 ⊢; omega), HB1.out.cell (by simp)]; exact hu
  have g0 : ∀ p : Wld S, p.w.cell? ⟨w.heap.size, 0, none⟩ = some (.bool a) := fun p => hg p 0 _ (by rw [World.cell?_alloc_at _ _ _ _ rfl]; rfl)
  have g1 : ∀ p : Wld S, p.w.cell? ⟨w.heap.size, 1, none⟩ = some (.bool b) := fun p => hg p 1 _ (by rw [World.cell?_alloc_at _ _ _ _ rfl]; rfl)
  have g2 : ∀ p : Wld S, p.w.cell? ⟨w.heap.size, 2, none⟩ = some (.bool c) := fun p => hg p 2 _ (by rw [World.cell?_alloc_at _ _ _ _ rfl]; rfl)
  have g3 : ∀ p : Wld S, p.w.cell? ⟨w.heap.size, 3, none⟩ = some (.bool d) := fun p => hg p 3 _ (by rw [World.cell?_alloc_at _ _ _ _ rfl]; rfl)
  have g4 : ∀ p : Wld S, p.w.cell? ⟨w.heap.size, 4, none⟩ = some (.bool e) := fun p => hg p 4 _ (by rw [World.cell?_alloc_at _ _ _ _ rfl]; rfl)
  have g5 : ∀ p : Wld S, p.w.cell? ⟨w.heap.size, 5, none⟩ = some (.bool f) := fun p => hg p 5 _ (by rw [World.cell?_alloc_at _ _ _ _ rfl]; rfl)
  have HP := Lib.hid (show ∀ p : Wld S, Below w.heap.size w p.w from fun p => below_then' HB.out (hSp _ p.ok))
  have HS := Lib.hid (show S W3.drew by rw [hS]; exact (Below.refl _ _).drew)
  clear hS hSp hg hs1 hs2 hb3 hW3 HB HB1 HB2 HR1 HR2 C3 C3'
  have hne : Nonempty (Wld S) := ⟨⟨_, HS.out⟩⟩
  refine wp_region_sub S (by kernel_rfl) (by kernel_rfl) HS.out ?_
  repeat (quiet_step (first
      | (go_at_call 15; exact calls_sub HX.out (alive_any _))
      | (go_at_call 16; exact calls_sub HX.out ((equalB_any _ _ _ _ _ (HQ1.out _) (HQ2.out _)).mono fun _ _ h => rb_eq h (eq_self _).symm))
      | (go_at_call 19; exact calls_sub HX.out (C1.out _))
      | (go_at_call 20; exact calls_sub HX.out (C1'.out _))
      | (go_at_call 17; exact calls_sub HX.out (C2.out _))
      | (go_at_call 18; exact calls_sub HX.out (C2'.out _))
      | (go_at_call 21; exact calls_sub HX.out (name_0 k (by omega) _))))
  refine wpQuiet_nil ?_
  intro _ hw'
  obtain ⟨pq, hw''⟩ := hw'
  subst hw''
  go_wp2_with fail
  go_ret
  exact ⟨rfl, HP.out pq⟩

set_option maxRecDepth 100000 in
set_option maxHeartbeats 4000000 in
theorem forms_0b (n k : Int) (xs : List Int) (z : Bool) (a b c d e f : Bool) (l L : Int) (hk : 1 ≤ k) (hk5 : 5 < k)
    (C1 : Hid (∀ w, Calls Try.prog 19 #[.int .i64 k] w (RV (.int .i64 l) w))) (C1' : Hid (∀ w, Calls Try.prog 20 #[.int .i64 k] w (RV (.int .i64 l) w)))
    (C2 : Hid (∀ w, Calls Try.prog 17 #[.agg #[.bool a, .bool b, .bool c, .bool d, .bool e, .bool f], .int .i64 k] w (RV (.int .i64 L) w))) (C2' : Hid (∀ w, Calls Try.prog 18 #[.agg #[.bool a, .bool b, .bool c, .bool d, .bool e, .bool f], .int .i64 k] w (RV (.int .i64 L) w)))
    (C3 : Hid (∀ w, Calls Try.prog 13 #[.agg #[.int .i64 n, .int .i64 k]] w (RdT xs z w))) (C3' : Hid (∀ w, Calls Try.prog 14 #[.int .i64 n, .int .i64 k] w (RdT xs z w)))
    (w : World) : Calls Try.prog 3 #[.agg #[.bool a, .bool b, .bool c, .bool d, .bool e, .bool f], .int .i64 n, .int .i64 k] w (RB true w) := by
  go_enter Try.func3, Try.ntmps3
  go_wp2_with fail
  refine (C3.out _).mono ?_
  rintro r w1 ⟨A1, c1, rfl, hr1, hb1⟩
  have HR1 := Lib.hid hr1
  have HB1 := Lib.hid hb1
  obtain ⟨m, hm⟩ : ∃ m, m = xs.length := ⟨_, rfl⟩
  rw [← hm] at HR1 ⊢
  clear hr1 hb1
  go_wp2_with fail
  refine (C3'.out _).mono ?_
  rintro r w2 ⟨A2, c2, rfl, hr2, hb2⟩
  have HR2 := Lib.hid hr2
  have HB2 := Lib.hid hb2
  rw [← hm] at HR2 ⊢
  clear hr2 hb2 hm
  go_wp2_with fail
  skip
  obtain ⟨W3, hW3⟩ : ∃ W3, W3 = w2 := ⟨_, rfl⟩
  rw [← hW3]
  have hb3 : Below w2.heap.size w2 W3 := by rw [hW3]; exact Below.refl _ _
  have HB := Lib.hid (below_then' (below_then' (below_then' (below_alloc (Below.refl w.heap.size w) (.cells #[.bool a, .bool b, .bool c, .bool d, .bool e, .bool f] 23)) HB1.out) HB2.out) hb3)
  have hs1 := HB1.out.size
  have hs2 := HB2.out.size
  obtain ⟨S, hS⟩ : ∃ S, S = fun w' => Below W3.heap.size W3 w' := ⟨_, rfl⟩
  have hSp : ∀ x, S x → Below W3.heap.size W3 x := by rw [hS]; exact fun _ h => h
  have HX := Lib.hid (show ∀ x1 x2, S x1 → Below x1.heap.size x1 x2 → S x2 from by rw [hS]; exact fun x1 x2 h hb => below_then' h hb)
  have HQ1 := Lib.hid (show ∀ p : Wld S, RdB p.w (.slice A1 m c1) xs from fun p => ((HR1.out.below HB2.out).below hb3).below (hSp _ p.ok))
  have HQ2 := Lib.hid (show ∀ p : Wld S, RdB p.w (.slice A2 m c2) xs from fun p => (HR2.out.below hb3).below (hSp _ p.ok))
  have hg : ∀ (p : Wld S) (j : Nat) (u : Value), (w.alloc (.cells #[.bool a, .bool b, .bool c, .bool d, .bool e, .bool f] 23)).cell? ⟨w.heap.size, j, none⟩ = some u → p.w.cell? ⟨w.heap.size, j, none⟩ = some u := fun p j u hu => by
    rw [(hSp _ p.ok).cell (by have := hb3.size; simp at hs1 ⊢; omega), hb3.cell (by simp at hs1 ⊢; omega), HB2.out.cell (by simp at hs1 ⊢; omega), HB1.out.cell (by simp)]; exact hu
  have g0 : ∀ p : Wld S, p.w.cell? ⟨w.heap.size, 0, none⟩ = some (.bool a) := fun p => hg p 0 _ (by rw [World.cell?_alloc_at _ _ _ _ rfl]; rfl)
  have g1 : ∀ p : Wld S, p.w.cell? ⟨w.heap.size, 1, none⟩ = some (.bool b) := fun p => hg p 1 _ (by rw [World.cell?_alloc_at _ _ _ _ rfl]; rfl)
  have g2 : ∀ p : Wld S, p.w.cell? ⟨w.heap.size, 2, none⟩ = some (.bool c) := fun p => hg p 2 _ (by rw [World.cell?_alloc_at _ _ _ _ rfl]; rfl)
  have g3 : ∀ p : Wld S, p.w.cell? ⟨w.heap.size, 3, none⟩ = some (.bool d) := fun p => hg p 3 _ (by rw [World.cell?_alloc_at _ _ _ _ rfl]; rfl)
  have g4 : ∀ p : Wld S, p.w.cell? ⟨w.heap.size, 4, none⟩ = some (.bool e) := fun p => hg p 4 _ (by rw [World.cell?_alloc_at _ _ _ _ rfl]; rfl)
  have g5 : ∀ p : Wld S, p.w.cell? ⟨w.heap.size, 5, none⟩ = some (.bool f) := fun p => hg p 5 _ (by rw [World.cell?_alloc_at _ _ _ _ rfl]; rfl)
  have HP := Lib.hid (show ∀ p : Wld S, Below w.heap.size w p.w from fun p => below_then' HB.out (hSp _ p.ok))
  have HS := Lib.hid (show S W3.drew by rw [hS]; exact (Below.refl _ _).drew)
  clear hS hSp hg hs1 hs2 hb3 hW3 HB HB1 HB2 HR1 HR2 C3 C3'
  have hne : Nonempty (Wld S) := ⟨⟨_, HS.out⟩⟩
  refine wp_region_sub S (by kernel_rfl) (by kernel_rfl) HS.out ?_
  repeat (quiet_step (first
      | (go_at_call 15; exact calls_sub HX.out (alive_any _))
      | (go_at_call 16; exact calls_sub HX.out ((equalB_any _ _ _ _ _ (HQ1.out _) (HQ2.out _)).mono fun _ _ h => rb_eq h (eq_self _).symm))
      | (go_at_call 19; exact calls_sub HX.out (C1.out _))
      | (go_at_call 20; exact calls_sub HX.out (C1'.out _))
      | (go_at_call 17; exact calls_sub HX.out (C2.out _))
      | (go_at_call 18; exact calls_sub HX.out (C2'.out _))
      | (go_at_call 21; exact calls_sub HX.out (name_0 k (by omega) _))))
  refine wpQuiet_nil ?_
  intro _ hw'
  obtain ⟨pq, hw''⟩ := hw'
  subst hw''
  go_wp2_with fail
  go_ret
  exact ⟨rfl, HP.out pq⟩

set_option maxRecDepth 100000 in
set_option maxHeartbeats 4000000 in
theorem forms_1 (n k : Int) (xs : List Int) (z : Bool) (a b c d e f : Bool) (l L : Int) (hk : k = 1)
    (C1 : Hid (∀ w, Calls Try.prog 19 #[.int .i64 1] w (RV (.int .i64 l) w))) (C1' : Hid (∀ w, Calls Try.prog 20 #[.int .i64 1] w (RV (.int .i64 l) w)))
    (C2 : Hid (∀ w, Calls Try.prog 17 #[.agg #[.bool a, .bool b, .bool c, .bool d, .bool e, .bool f], .int .i64 1] w (RV (.int .i64 L) w))) (C2' : Hid (∀ w, Calls Try.prog 18 #[.agg #[.bool a, .bool b, .bool c, .bool d, .bool e, .bool f], .int .i64 1] w (RV (.int .i64 L) w)))
    (C3 : Hid (∀ w, Calls Try.prog 13 #[.agg #[.int .i64 n, .int .i64 1]] w (RdT xs z w))) (C3' : Hid (∀ w, Calls Try.prog 14 #[.int .i64 n, .int .i64 1] w (RdT xs z w)))
    (w : World) : Calls Try.prog 3 #[.agg #[.bool a, .bool b, .bool c, .bool d, .bool e, .bool f], .int .i64 n, .int .i64 1] w (RB true w) := by
  go_enter Try.func3, Try.ntmps3
  go_wp2_with fail
  refine (C3.out _).mono ?_
  rintro r w1 ⟨A1, c1, rfl, hr1, hb1⟩
  have HR1 := Lib.hid hr1
  have HB1 := Lib.hid hb1
  obtain ⟨m, hm⟩ : ∃ m, m = xs.length := ⟨_, rfl⟩
  rw [← hm] at HR1 ⊢
  clear hr1 hb1
  go_wp2_with fail
  refine (C3'.out _).mono ?_
  rintro r w2 ⟨A2, c2, rfl, hr2, hb2⟩
  have HR2 := Lib.hid hr2
  have HB2 := Lib.hid hb2
  rw [← hm] at HR2 ⊢
  clear hr2 hb2 hm
  go_wp2_with fail
  skip
  obtain ⟨W3, hW3⟩ : ∃ W3, W3 = (w2.alloc (.cells #[.string ⟨#[79, 80, 69, 78]⟩, .string ⟨#[85, 80, 68, 65, 84, 69]⟩, .string ⟨#[78, 79, 84, 73, 70, 73, 67, 65, 84, 73, 79, 78]⟩, .string ⟨#[75, 69, 69, 80, 65, 76, 73, 86, 69]⟩, .string ⟨#[82, 79, 85, 84, 69, 45, 82, 69, 70, 82, 69, 83, 72]⟩] 9)) := ⟨_, rfl⟩
  rw [← hW3]
  have hb3 : Below w2.heap.size w2 W3 := by rw [hW3]; exact below_alloc (Below.refl _ _) _
  have HB := Lib.hid (below_then' (below_then' (below_then' (below_alloc (Below.refl w.heap.size w) (.cells #[.bool a, .bool b, .bool c, .bool d, .bool e, .bool f] 23)) HB1.out) HB2.out) hb3)
  have hs1 := HB1.out.size
  have hs2 := HB2.out.size
  obtain ⟨S, hS⟩ : ∃ S, S = fun w' => Below W3.heap.size W3 w' := ⟨_, rfl⟩
  have hSp : ∀ x, S x → Below W3.heap.size W3 x := by rw [hS]; exact fun _ h => h
  have HX := Lib.hid (show ∀ x1 x2, S x1 → Below x1.heap.size x1 x2 → S x2 from by rw [hS]; exact fun x1 x2 h hb => below_then' h hb)
  have HQ1 := Lib.hid (show ∀ p : Wld S, RdB p.w (.slice A1 m c1) xs from fun p => ((HR1.out.below HB2.out).below hb3).below (hSp _ p.ok))
  have HQ2 := Lib.hid (show ∀ p : Wld S, RdB p.w (.slice A2 m c2) xs from fun p => (HR2.out.below hb3).below (hSp _ p.ok))
  have hg : ∀ (p : Wld S) (j : Nat) (u : Value), (w.alloc (.cells #[.bool a, .bool b, .bool c, .bool d, .bool e, .bool f] 23)).cell? ⟨w.heap.size, j, none⟩ = some u → p.w.cell? ⟨w.heap.size, j, none⟩ = some u := fun p j u hu => by
    rw [(hSp _ p.ok).cell (by have := hb3.size; simp at hs1 ⊢; omega), hb3.cell (by simp at hs1 ⊢; omega), HB2.out.cell (by simp at hs1 ⊢; omega), HB1.out.cell (by simp)]; exact hu
  have g0 : ∀ p : Wld S, p.w.cell? ⟨w.heap.size, 0, none⟩ = some (.bool a) := fun p => hg p 0 _ (by rw [World.cell?_alloc_at _ _ _ _ rfl]; rfl)
  have g1 : ∀ p : Wld S, p.w.cell? ⟨w.heap.size, 1, none⟩ = some (.bool b) := fun p => hg p 1 _ (by rw [World.cell?_alloc_at _ _ _ _ rfl]; rfl)
  have g2 : ∀ p : Wld S, p.w.cell? ⟨w.heap.size, 2, none⟩ = some (.bool c) := fun p => hg p 2 _ (by rw [World.cell?_alloc_at _ _ _ _ rfl]; rfl)
  have g3 : ∀ p : Wld S, p.w.cell? ⟨w.heap.size, 3, none⟩ = some (.bool d) := fun p => hg p 3 _ (by rw [World.cell?_alloc_at _ _ _ _ rfl]; rfl)
  have g4 : ∀ p : Wld S, p.w.cell? ⟨w.heap.size, 4, none⟩ = some (.bool e) := fun p => hg p 4 _ (by rw [World.cell?_alloc_at _ _ _ _ rfl]; rfl)
  have g5 : ∀ p : Wld S, p.w.cell? ⟨w.heap.size, 5, none⟩ = some (.bool f) := fun p => hg p 5 _ (by rw [World.cell?_alloc_at _ _ _ _ rfl]; rfl)
  have HP := Lib.hid (show ∀ p : Wld S, Below w.heap.size w p.w from fun p => below_then' HB.out (hSp _ p.ok))
  have HS := Lib.hid (show S W3.drew by rw [hS]; exact (Below.refl _ _).drew)
  clear hS hSp hg hs1 hs2 hb3 hW3 HB HB1 HB2 HR1 HR2 C3 C3'
  have hne : Nonempty (Wld S) := ⟨⟨_, HS.out⟩⟩
  refine wp_region_sub S (by kernel_rfl) (by kernel_rfl) HS.out ?_
  repeat (quiet_step (first
      | (go_at_call 15; exact calls_sub HX.out (alive_any _))
      | (go_at_call 16; exact calls_sub HX.out ((equalB_any _ _ _ _ _ (HQ1.out _) (HQ2.out _)).mono fun _ _ h => rb_eq h (eq_self _).symm))
      | (go_at_call 19; exact calls_sub HX.out (C1.out _))
      | (go_at_call 20; exact calls_sub HX.out (C1'.out _))
      | (go_at_call 17; exact calls_sub HX.out (C2.out _))
      | (go_at_call 18; exact calls_sub HX.out (C2'.out _))
      | (go_at_call 21; exact calls_sub HX.out (name_1 _))))
  refine wpQuiet_nil ?_
  intro _ hw'
  obtain ⟨pq, hw''⟩ := hw'
  subst hw''
  go_wp2_with fail
  go_ret
  exact ⟨rfl, HP.out pq⟩

set_option maxRecDepth 100000 in
set_option maxHeartbeats 4000000 in
theorem forms_2 (n k : Int) (xs : List Int) (z : Bool) (a b c d e f : Bool) (l L : Int) (hk : k = 2)
    (C1 : Hid (∀ w, Calls Try.prog 19 #[.int .i64 2] w (RV (.int .i64 l) w))) (C1' : Hid (∀ w, Calls Try.prog 20 #[.int .i64 2] w (RV (.int .i64 l) w)))
    (C2 : Hid (∀ w, Calls Try.prog 17 #[.agg #[.bool a, .bool b, .bool c, .bool d, .bool e, .bool f], .int .i64 2] w (RV (.int .i64 L) w))) (C2' : Hid (∀ w, Calls Try.prog 18 #[.agg #[.bool a, .bool b, .bool c, .bool d, .bool e, .bool f], .int .i64 2] w (RV (.int .i64 L) w)))
    (C3 : Hid (∀ w, Calls Try.prog 13 #[.agg #[.int .i64 n, .int .i64 2]] w (RdT xs z w))) (C3' : Hid (∀ w, Calls Try.prog 14 #[.int .i64 n, .int .i64 2] w (RdT xs z w)))
    (w : World) : Calls Try.prog 3 #[.agg #[.bool a, .bool b, .bool c, .bool d, .bool e, .bool f], .int .i64 n, .int .i64 2] w (RB true w) := by
  go_enter Try.func3, Try.ntmps3
  go_wp2_with fail
  refine (C3.out _).mono ?_
  rintro r w1 ⟨A1, c1, rfl, hr1, hb1⟩
  have HR1 := Lib.hid hr1
  have HB1 := Lib.hid hb1
  obtain ⟨m, hm⟩ : ∃ m, m = xs.length := ⟨_, rfl⟩
  rw [← hm] at HR1 ⊢
  clear hr1 hb1
  go_wp2_with fail
  refine (C3'.out _).mono ?_
  rintro r w2 ⟨A2, c2, rfl, hr2, hb2⟩
  have HR2 := Lib.hid hr2
  have HB2 := Lib.hid hb2
  rw [← hm] at HR2 ⊢
  clear hr2 hb2 hm
  go_wp2_with fail
  skip
  obtain ⟨W3, hW3⟩ : ∃ W3, W3 = (w2.alloc (.cells #[.string ⟨#[79, 80, 69, 78]⟩, .string ⟨#[85, 80, 68, 65, 84, 69]⟩, .string ⟨#[78, 79, 84, 73, 70, 73, 67, 65, 84, 73, 79, 78]⟩, .string ⟨#[75, 69, 69, 80, 65, 76, 73, 86, 69]⟩, .string ⟨#[82, 79, 85, 84, 69, 45, 82, 69, 70, 82, 69, 83, 72]⟩] 9)) := ⟨_, rfl⟩
  rw [← hW3]
  have hb3 : Below w2.heap.size w2 W3 := by rw [hW3]; exact below_alloc (Below.refl _ _) _
  have HB := Lib.hid (below_then' (below_then' (below_then' (below_alloc (Below.refl w.heap.size w) (.cells #[.bool a, .bool b, .bool c, .bool d, .bool e, .bool f] 23)) HB1.out) HB2.out) hb3)
  have hs1 := HB1.out.size
  have hs2 := HB2.out.size
  obtain ⟨S, hS⟩ : ∃ S, S = fun w' => Below W3.heap.size W3 w' := ⟨_, rfl⟩
  have hSp : ∀ x, S x → Below W3.heap.size W3 x := by rw [hS]; exact fun _ h => h
  have HX := Lib.hid (show ∀ x1 x2, S x1 → Below x1.heap.size x1 x2 → S x2 from by rw [hS]; exact fun x1 x2 h hb => below_then' h hb)
  have HQ1 := Lib.hid (show ∀ p : Wld S, RdB p.w (.slice A1 m c1) xs from fun p => ((HR1.out.below HB2.out).below hb3).below (hSp _ p.ok))
  have HQ2 := Lib.hid (show ∀ p : Wld S, RdB p.w (.slice A2 m c2) xs from fun p => (HR2.out.below hb3).below (hSp _ p.ok))
  have hg : ∀ (p : Wld S) (j : Nat) (u : Value), (w.alloc (.cells #[.bool a, .bool b, .bool c, .bool d, .bool e, .bool f] 23)).cell? ⟨w.heap.size, j, none⟩ = some u → p.w.cell? ⟨w.heap.size, j, none⟩ = some u := fun p j u hu => by
    rw [(hSp _ p.ok).cell (by have := hb3.size; simp at hs1 ⊢; omega), hb3.cell (by simp at hs1 ⊢; omega), HB2.out.cell (by simp at hs1 ⊢; omega), HB1.out.cell (by simp)]; exact hu
  have g0 : ∀ p : Wld S, p.w.cell? ⟨w.heap.size, 0, none⟩ = some (.bool a) := fun p => hg p 0 _ (by rw [World.cell?_alloc_at _ _ _ _ rfl]; rfl)
  have g1 : ∀ p : Wld S, p.w.cell? ⟨w.heap.size, 1, none⟩ = some (.bool b) := fun p => hg p 1 _ (by rw [World.cell?_alloc_at _ _ _ _ rfl]; rfl)
  have g2 : ∀ p : Wld S, p.w.cell? ⟨w.heap.size, 2, none⟩ = some (.bool c) := fun p => hg p 2 _ (by rw [World.cell?_alloc_at _ _ _ _ rfl]; rfl)
  have g3 : ∀ p : Wld S, p.w.cell? ⟨w.heap.size, 3, none⟩ = some (.bool d) := fun p => hg p 3 _ (by rw [World.cell?_alloc_at _ _ _ _ rfl]; rfl)
  have g4 : ∀ p : Wld S, p.w.cell? ⟨w.heap.size, 4, none⟩ = some (.bool e) := fun p => hg p 4 _ (by rw [World.cell?_alloc_at _ _ _ _ rfl]; rfl)
  have g5 : ∀ p : Wld S, p.w.cell? ⟨w.heap.size, 5, none⟩ = some (.bool f) := fun p => hg p 5 _ (by rw [World.cell?_alloc_at _ _ _ _ rfl]; rfl)
  have HP := Lib.hid (show ∀ p : Wld S, Below w.heap.size w p.w from fun p => below_then' HB.out (hSp _ p.ok))
  have HS := Lib.hid (show S W3.drew by rw [hS]; exact (Below.refl _ _).drew)
  clear hS hSp hg hs1 hs2 hb3 hW3 HB HB1 HB2 HR1 HR2 C3 C3'
  have hne : Nonempty (Wld S) := ⟨⟨_, HS.out⟩⟩
  refine wp_region_sub S (by kernel_rfl) (by kernel_rfl) HS.out ?_
  repeat (quiet_step (first
      | (go_at_call 15; exact calls_sub HX.out (alive_any _))
      | (go_at_call 16; exact calls_sub HX.out ((equalB_any _ _ _ _ _ (HQ1.out _) (HQ2.out _)).mono fun _ _ h => rb_eq h (eq_self _).symm))
      | (go_at_call 19; exact calls_sub HX.out (C1.out _))
      | (go_at_call 20; exact calls_sub HX.out (C1'.out _))
      | (go_at_call 17; exact calls_sub HX.out (C2.out _))
      | (go_at_call 18; exact calls_sub HX.out (C2'.out _))
      | (go_at_call 21; exact calls_sub HX.out (name_2 _))))
  refine wpQuiet_nil ?_
  intro _ hw'
  obtain ⟨pq, hw''⟩ := hw'
  subst hw''
  go_wp2_with fail
  go_ret
  exact ⟨rfl, HP.out pq⟩

set_option maxRecDepth 100000 in
set_option maxHeartbeats 4000000 in
theorem forms_3 (n k : Int) (xs : List Int) (z : Bool) (a b c d e f : Bool) (l L : Int) (hk : k = 3)
    (C1 : Hid (∀ w, Calls Try.prog 19 #[.int .i64 3] w (RV (.int .i64 l) w))) (C1' : Hid (∀ w, Calls Try.prog 20 #[.int .i64 3] w (RV (.int .i64 l) w)))
    (C2 : Hid (∀ w, Calls Try.prog 17 #[.agg #[.bool a, .bool b, .bool c, .bool d, .bool e, .bool f], .int .i64 3] w (RV (.int .i64 L) w))) (C2' : Hid (∀ w, Calls Try.prog 18 #[.agg #[.bool a, .bool b, .bool c, .bool d, .bool e, .bool f], .int .i64 3] w (RV (.int .i64 L) w)))
    (C3 : Hid (∀ w, Calls Try.prog 13 #[.agg #[.int .i64 n, .int .i64 3]] w (RdT xs z w))) (C3' : Hid (∀ w, Calls Try.prog 14 #[.int .i64 n, .int .i64 3] w (RdT xs z w)))
    (w : World) : Calls Try.prog 3 #[.agg #[.bool a, .bool b, .bool c, .bool d, .bool e, .bool f], .int .i64 n, .int .i64 3] w (RB true w) := by
  go_enter Try.func3, Try.ntmps3
  go_wp2_with fail
  refine (C3.out _).mono ?_
  rintro r w1 ⟨A1, c1, rfl, hr1, hb1⟩
  have HR1 := Lib.hid hr1
  have HB1 := Lib.hid hb1
  obtain ⟨m, hm⟩ : ∃ m, m = xs.length := ⟨_, rfl⟩
  rw [← hm] at HR1 ⊢
  clear hr1 hb1
  go_wp2_with fail
  refine (C3'.out _).mono ?_
  rintro r w2 ⟨A2, c2, rfl, hr2, hb2⟩
  have HR2 := Lib.hid hr2
  have HB2 := Lib.hid hb2
  rw [← hm] at HR2 ⊢
  clear hr2 hb2 hm
  go_wp2_with fail
  skip
  obtain ⟨W3, hW3⟩ : ∃ W3, W3 = (w2.alloc (.cells #[.string ⟨#[79, 80, 69, 78]⟩, .string ⟨#[85, 80, 68, 65, 84, 69]⟩, .string ⟨#[78, 79, 84, 73, 70, 73, 67, 65, 84, 73, 79, 78]⟩, .string ⟨#[75, 69, 69, 80, 65, 76, 73, 86, 69]⟩, .string ⟨#[82, 79, 85, 84, 69, 45, 82, 69, 70, 82, 69, 83, 72]⟩] 9)) := ⟨_, rfl⟩
  rw [← hW3]
  have hb3 : Below w2.heap.size w2 W3 := by rw [hW3]; exact below_alloc (Below.refl _ _) _
  have HB := Lib.hid (below_then' (below_then' (below_then' (below_alloc (Below.refl w.heap.size w) (.cells #[.bool a, .bool b, .bool c, .bool d, .bool e, .bool f] 23)) HB1.out) HB2.out) hb3)
  have hs1 := HB1.out.size
  have hs2 := HB2.out.size
  obtain ⟨S, hS⟩ : ∃ S, S = fun w' => Below W3.heap.size W3 w' := ⟨_, rfl⟩
  have hSp : ∀ x, S x → Below W3.heap.size W3 x := by rw [hS]; exact fun _ h => h
  have HX := Lib.hid (show ∀ x1 x2, S x1 → Below x1.heap.size x1 x2 → S x2 from by rw [hS]; exact fun x1 x2 h hb => below_then' h hb)
  have HQ1 := Lib.hid (show ∀ p : Wld S, RdB p.w (.slice A1 m c1) xs from fun p => ((HR1.out.below HB2.out).below hb3).below (hSp _ p.ok))
  have HQ2 := Lib.hid (show ∀ p : Wld S, RdB p.w (.slice A2 m c2) xs from fun p => (HR2.out.below hb3).below (hSp _ p.ok))
  have hg : ∀ (p : Wld S) (j : Nat) (u : Value), (w.alloc (.cells #[.bool a, .bool b, .bool c, .bool d, .bool e, .bool f] 23)).cell? ⟨w.heap.size, j, none⟩ = some u → p.w.cell? ⟨w.heap.size, j, none⟩ = some u := fun p j u hu => by
    rw [(hSp _ p.ok).cell (by have := hb3.size; simp at hs1 ⊢; omega), hb3.cell (by simp at hs1 ⊢; omega), HB2.out.cell (by simp at hs1 ⊢; omega), HB1.out.cell (by simp)]; exact hu
  have g0 : ∀ p : Wld S, p.w.cell? ⟨w.heap.size, 0, none⟩ = some (.bool a) := fun p => hg p 0 _ (by rw [World.cell?_alloc_at _ _ _ _ rfl]; rfl)
  have g1 : ∀ p : Wld S, p.w.cell? ⟨w.heap.size, 1, none⟩ = some (.bool b) := fun p => hg p 1 _ (by rw [World.cell?_alloc_at _ _ _ _ rfl]; rfl)
  have g2 : ∀ p : Wld S, p.w.cell? ⟨w.heap.size, 2, none⟩ = some (.bool c) := fun p => hg p 2 _ (by rw [World.cell?_alloc_at _ _ _ _ rfl]; rfl)
  have g3 : ∀ p : Wld S, p.w.cell? ⟨w.heap.size, 3, none⟩ = some (.bool d) := fun p => hg p 3 _ (by rw [World.cell?_alloc_at _ _ _ _ rfl]; rfl)
  have g4 : ∀ p : Wld S, p.w.cell? ⟨w.heap.size, 4, none⟩ = some (.bool e) := fun p => hg p 4 _ (by rw [World.cell?_alloc_at _ _ _ _ rfl]; rfl)
  have g5 : ∀ p : Wld S, p.w.cell? ⟨w.heap.size, 5, none⟩ = some (.bool f) := fun p => hg p 5 _ (by rw [World.cell?_alloc_at _ _ _ _ rfl]; rfl)
  have HP := Lib.hid (show ∀ p : Wld S, Below w.heap.size w p.w from fun p => below_then' HB.out (hSp _ p.ok))
  have HS := Lib.hid (show S W3.drew by rw [hS]; exact (Below.refl _ _).drew)
  clear hS hSp hg hs1 hs2 hb3 hW3 HB HB1 HB2 HR1 HR2 C3 C3'
  have hne : Nonempty (Wld S) := ⟨⟨_, HS.out⟩⟩
  refine wp_region_sub S (by kernel_rfl) (by kernel_rfl) HS.out ?_
  repeat (quiet_step (first
      | (go_at_call 15; exact calls_sub HX.out (alive_any _))
      | (go_at_call 16; exact calls_sub HX.out ((equalB_any _ _ _ _ _ (HQ1.out _) (HQ2.out _)).mono fun _ _ h => rb_eq h (eq_self _).symm))
      | (go_at_call 19; exact calls_sub HX.out (C1.out _))
      | (go_at_call 20; exact calls_sub HX.out (C1'.out _))
      | (go_at_call 17; exact calls_sub HX.out (C2.out _))
      | (go_at_call 18; exact calls_sub HX.out (C2'.out _))
      | (go_at_call 21; exact calls_sub HX.out (name_3 _))))
  refine wpQuiet_nil ?_
  intro _ hw'
  obtain ⟨pq, hw''⟩ := hw'
  subst hw''
  go_wp2_with fail
  go_ret
  exact ⟨rfl, HP.out pq⟩

set_option maxRecDepth 100000 in
set_option maxHeartbeats 4000000 in
theorem forms_4 (n k : Int) (xs : List Int) (z : Bool) (a b c d e f : Bool) (l L : Int) (hk : k = 4)
    (C1 : Hid (∀ w, Calls Try.prog 19 #[.int .i64 4] w (RV (.int .i64 l) w))) (C1' : Hid (∀ w, Calls Try.prog 20 #[.int .i64 4] w (RV (.int .i64 l) w)))
    (C2 : Hid (∀ w, Calls Try.prog 17 #[.agg #[.bool a, .bool b, .bool c, .bool d, .bool e, .bool f], .int .i64 4] w (RV (.int .i64 L) w))) (C2' : Hid (∀ w, Calls Try.prog 18 #[.agg #[.bool a, .bool b, .bool c, .bool d, .bool e, .bool f], .int .i64 4] w (RV (.int .i64 L) w)))
    (C3 : Hid (∀ w, Calls Try.prog 13 #[.agg #[.int .i64 n, .int .i64 4]] w (RdT xs z w))) (C3' : Hid (∀ w, Calls Try.prog 14 #[.int .i64 n, .int .i64 4] w (RdT xs z w)))
    (w : World) : Calls Try.prog 3 #[.agg #[.bool a, .bool b, .bool c, .bool d, .bool e, .bool f], .int .i64 n, .int .i64 4] w (RB true w) := by
  go_enter Try.func3, Try.ntmps3
  go_wp2_with fail
  refine (C3.out _).mono ?_
  rintro r w1 ⟨A1, c1, rfl, hr1, hb1⟩
  have HR1 := Lib.hid hr1
  have HB1 := Lib.hid hb1
  obtain ⟨m, hm⟩ : ∃ m, m = xs.length := ⟨_, rfl⟩
  rw [← hm] at HR1 ⊢
  clear hr1 hb1
  go_wp2_with fail
  refine (C3'.out _).mono ?_
  rintro r w2 ⟨A2, c2, rfl, hr2, hb2⟩
  have HR2 := Lib.hid hr2
  have HB2 := Lib.hid hb2
  rw [← hm] at HR2 ⊢
  clear hr2 hb2 hm
  go_wp2_with fail
  skip
  obtain ⟨W3, hW3⟩ : ∃ W3, W3 = (w2.alloc (.cells #[.string ⟨#[79, 80, 69, 78]⟩, .string ⟨#[85, 80, 68, 65, 84, 69]⟩, .string ⟨#[78, 79, 84, 73, 70, 73, 67, 65, 84, 73, 79, 78]⟩, .string ⟨#[75, 69, 69, 80, 65, 76, 73, 86, 69]⟩, .string ⟨#[82, 79, 85, 84, 69, 45, 82, 69, 70, 82, 69, 83, 72]⟩] 9)) := ⟨_, rfl⟩
  rw [← hW3]
  have hb3 : Below w2.heap.size w2 W3 := by rw [hW3]; exact below_alloc (Below.refl _ _) _
  have HB := Lib.hid (below_then' (below_then' (below_then' (below_alloc (Below.refl w.heap.size w) (.cells #[.bool a, .bool b, .bool c, .bool d, .bool e, .bool f] 23)) HB1.out) HB2.out) hb3)
  have hs1 := HB1.out.size
  have hs2 := HB2.out.size
  obtain ⟨S, hS⟩ : ∃ S, S = fun w' => Below W3.heap.size W3 w' := ⟨_, rfl⟩
  have hSp : ∀ x, S x → Below W3.heap.size W3 x := by rw [hS]; exact fun _ h => h
  have HX := Lib.hid (show ∀ x1 x2, S x1 → Below x1.heap.size x1 x2 → S x2 from by rw [hS]; exact fun x1 x2 h hb => below_then' h hb)
  have HQ1 := Lib.hid (show ∀ p : Wld S, RdB p.w (.slice A1 m c1) xs from fun p => ((HR1.out.below HB2.out).below hb3).below (hSp _ p.ok))
  have HQ2 := Lib.hid (show ∀ p : Wld S, RdB p.w (.slice A2 m c2) xs from fun p => (HR2.out.below hb3).below (hSp _ p.ok))
  have hg : ∀ (p : Wld S) (j : Nat) (u : Value), (w.alloc (.cells #[.bool a, .bool b, .bool c, .bool d, .bool e, .bool f] 23)).cell? ⟨w.heap.size, j, none⟩ = some u → p.w.cell? ⟨w.heap.size, j, none⟩ = some u := fun p j u hu => by
    rw [(hSp _ p.ok).cell (by have := hb3.size; simp at hs1 ⊢; omega), hb3.cell (by simp at hs1 ⊢; omega), HB2.out.cell (by simp at hs1 ⊢; omega), HB1.out.cell (by simp)]; exact hu
  have g0 : ∀ p : Wld S, p.w.cell? ⟨w.heap.size, 0, none⟩ = some (.bool a) := fun p => hg p 0 _ (by rw [World.cell?_alloc_at _ _ _ _ rfl]; rfl)
  have g1 : ∀ p : Wld S, p.w.cell? ⟨w.heap.size, 1, none⟩ = some (.bool b) := fun p => hg p 1 _ (by rw [World.cell?_alloc_at _ _ _ _ rfl]; rfl)
  have g2 : ∀ p : Wld S, p.w.cell? ⟨w.heap.size, 2, none⟩ = some (.bool c) := fun p => hg p 2 _ (by rw [World.cell?_alloc_at _ _ _ _ rfl]; rfl)
  have g3 : ∀ p : Wld S, p.w.cell? ⟨w.heap.size, 3, none⟩ = some (.bool d) := fun p => hg p 3 _ (by rw [World.cell?_alloc_at _ _ _ _ rfl]; rfl)
  have g4 : ∀ p : Wld S, p.w.cell? ⟨w.heap.size, 4, none⟩ = some (.bool e) := fun p => hg p 4 _ (by rw [World.cell?_alloc_at _ _ _ _ rfl]; rfl)
  have g5 : ∀ p : Wld S, p.w.cell? ⟨w.heap.size, 5, none⟩ = some (.bool f) := fun p => hg p 5 _ (by rw [World.cell?_alloc_at _ _ _ _ rfl]; rfl)
  have HP := Lib.hid (show ∀ p : Wld S, Below w.heap.size w p.w from fun p => below_then' HB.out (hSp _ p.ok))
  have HS := Lib.hid (show S W3.drew by rw [hS]; exact (Below.refl _ _).drew)
  clear hS hSp hg hs1 hs2 hb3 hW3 HB HB1 HB2 HR1 HR2 C3 C3'
  have hne : Nonempty (Wld S) := ⟨⟨_, HS.out⟩⟩
  refine wp_region_sub S (by kernel_rfl) (by kernel_rfl) HS.out ?_
  repeat (quiet_step (first
      | (go_at_call 15; exact calls_sub HX.out (alive_any _))
      | (go_at_call 16; exact calls_sub HX.out ((equalB_any _ _ _ _ _ (HQ1.out _) (HQ2.out _)).mono fun _ _ h => rb_eq h (eq_self _).symm))
      | (go_at_call 19; exact calls_sub HX.out (C1.out _))
      | (go_at_call 20; exact calls_sub HX.out (C1'.out _))
      | (go_at_call 17; exact calls_sub HX.out (C2.out _))
      | (go_at_call 18; exact calls_sub HX.out (C2'.out _))
      | (go_at_call 21; exact calls_sub HX.out (name_4 _))))
  refine wpQuiet_nil ?_
  intro _ hw'
  obtain ⟨pq, hw''⟩ := hw'
  subst hw''
  go_wp2_with fail
  go_ret
  exact ⟨rfl, HP.out pq⟩

set_option maxRecDepth 100000 in
set_option maxHeartbeats 4000000 in
theorem forms_5 (n k : Int) (xs : List Int) (z : Bool) (a b c d e f : Bool) (l L : Int) (hk : k = 5)
    (C1 : Hid (∀ w, Calls Try.prog 19 #[.int .i64 5] w (RV (.int .i64 l) w))) (C1' : Hid (∀ w, Calls Try.prog 20 #[.int .i64 5] w (RV (.int .i64 l) w)))
    (C2 : Hid (∀ w, Calls Try.prog 17 #[.agg #[.bool a, .bool b, .bool c, .bool d, .bool e, .bool f], .int .i64 5] w (RV (.int .i64 L) w))) (C2' : Hid (∀ w, Calls Try.prog 18 #[.agg #[.bool a, .bool b, .bool c, .bool d, .bool e, .bool f], .int .i64 5] w (RV (.int .i64 L) w)))
    (C3 : Hid (∀ w, Calls Try.prog 13 #[.agg #[.int .i64 n, .int .i64 5]] w (RdT xs z w))) (C3' : Hid (∀ w, Calls Try.prog 14 #[.int .i64 n, .int .i64 5] w (RdT xs z w)))
    (w : World) : Calls Try.prog 3 #[.agg #[.bool a, .bool b, .bool c, .bool d, .bool e, .bool f], .int .i64 n, .int .i64 5] w (RB true w) := by
  go_enter Try.func3, Try.ntmps3
  go_wp2_with fail
  refine (C3.out _).mono ?_
  rintro r w1 ⟨A1, c1, rfl, hr1, hb1⟩
  have HR1 := Lib.hid hr1
  have HB1 := Lib.hid hb1
  obtain ⟨m, hm⟩ : ∃ m, m = xs.length := ⟨_, rfl⟩
  rw [← hm] at HR1 ⊢
  clear hr1 hb1
  go_wp2_with fail
  refine (C3'.out _).mono ?_
  rintro r w2 ⟨A2, c2, rfl, hr2, hb2⟩
  have HR2 := Lib.hid hr2
  have HB2 := Lib.hid hb2
  rw [← hm] at HR2 ⊢
  clear hr2 hb2 hm
  go_wp2_with fail
  skip
  obtain ⟨W3, hW3⟩ : ∃ W3, W3 = (w2.alloc (.cells #[.string ⟨#[79, 80, 69, 78]⟩, .string ⟨#[85, 80, 68, 65, 84, 69]⟩, .string ⟨#[78, 79, 84, 73, 70, 73, 67, 65, 84, 73, 79, 78]⟩, .string ⟨#[75, 69, 69, 80, 65, 76, 73, 86, 69]⟩, .string ⟨#[82, 79, 85, 84, 69, 45, 82, 69, 70, 82, 69, 83, 72]⟩] 9)) := ⟨_, rfl⟩
  rw [← hW3]
  have hb3 : Below w2.heap.size w2 W3 := by rw [hW3]; exact below_alloc (Below.refl _ _) _
  have HB := Lib.hid (below_then' (below_then' (below_then' (below_alloc (Below.refl w.heap.size w) (.cells #[.bool a, .bool b, .bool c, .bool d, .bool e, .bool f] 23)) HB1.out) HB2.out) hb3)
  have hs1 := HB1.out.size
  have hs2 := HB2.out.size
  obtain ⟨S, hS⟩ : ∃ S, S = fun w' => Below W3.heap.size W3 w' := ⟨_, rfl⟩
  have hSp : ∀ x, S x → Below W3.heap.size W3 x := by rw [hS]; exact fun _ h => h
  have HX := Lib.hid (show ∀ x1 x2, S x1 → Below x1.heap.size x1 x2 → S x2 from by rw [hS]; exact fun x1 x2 h hb => below_then' h hb)
  have HQ1 := Lib.hid (show ∀ p : Wld S, RdB p.w (.slice A1 m c1) xs from fun p => ((HR1.out.below HB2.out).below hb3).below (hSp _ p.ok))
  have HQ2 := Lib.hid (show ∀ p : Wld S, RdB p.w (.slice A2 m c2) xs from fun p => (HR2.out.below hb3).below (hSp _ p.ok))
  have hg : ∀ (p : Wld S) (j : Nat) (u : Value), (w.alloc (.cells #[.bool a, .bool b, .bool c, .bool d, .bool e, .bool f] 23)).cell? ⟨w.heap.size, j, none⟩ = some u → p.w.cell? ⟨w.heap.size, j, none⟩ = some u := fun p j u hu => by
    rw [(hSp _ p.ok).cell (by have := hb3.size; simp at hs1 ⊢; omega), hb3.cell (by simp at hs1 ⊢; omega), HB2.out.cell (by simp at hs1 ⊢; omega), HB1.out.cell (by simp)]; exact hu
  have g0 : ∀ p : Wld S, p.w.cell? ⟨w.heap.size, 0, none⟩ = some (.bool a) := fun p => hg p 0 _ (by rw [World.cell?_alloc_at _ _ _ _ rfl]; rfl)
  have g1 : ∀ p : Wld S, p.w.cell? ⟨w.heap.size, 1, none⟩ = some (.bool b) := fun p => hg p 1 _ (by rw [World.cell?_alloc_at _ _ _ _ rfl]; rfl)
  have g2 : ∀ p : Wld S, p.w.cell? ⟨w.heap.size, 2, none⟩ = some (.bool c) := fun p => hg p 2 _ (by rw [World.cell?_alloc_at _ _ _ _ rfl]; rfl)
  have g3 : ∀ p : Wld S, p.w.cell? ⟨w.heap.size, 3, none⟩ = some (.bool d) := fun p => hg p 3 _ (by rw [World.cell?_alloc_at _ _ _ _ rfl]; rfl)
  have g4 : ∀ p : Wld S, p.w.cell? ⟨w.heap.size, 4, none⟩ = some (.bool e) := fun p => hg p 4 _ (by rw [World.cell?_alloc_at _ _ _ _ rfl]; rfl)
  have g5 : ∀ p : Wld S, p.w.cell? ⟨w.heap.size, 5, none⟩ = some (.bool f) := fun p => hg p 5 _ (by rw [World.cell?_alloc_at _ _ _ _ rfl]; rfl)
  have HP := Lib.hid (show ∀ p : Wld S, Below w.heap.size w p.w from fun p => below_then' HB.out (hSp _ p.ok))
  have HS := Lib.hid (show S W3.drew by rw [hS]; exact (Below.refl _ _).drew)
  clear hS hSp hg hs1 hs2 hb3 hW3 HB HB1 HB2 HR1 HR2 C3 C3'
  have hne : Nonempty (Wld S) := ⟨⟨_, HS.out⟩⟩
  refine wp_region_sub S (by kernel_rfl) (by kernel_rfl) HS.out ?_
  repeat (quiet_step (first
      | (go_at_call 15; exact calls_sub HX.out (alive_any _))
      | (go_at_call 16; exact calls_sub HX.out ((equalB_any _ _ _ _ _ (HQ1.out _) (HQ2.out _)).mono fun _ _ h => rb_eq h (eq_self _).symm))
      | (go_at_call 19; exact calls_sub HX.out (C1.out _))
      | (go_at_call 20; exact calls_sub HX.out (C1'.out _))
      | (go_at_call 17; exact calls_sub HX.out (C2.out _))
      | (go_at_call 18; exact calls_sub HX.out (C2'.out _))
      | (go_at_call 21; exact calls_sub HX.out (name_5 _))))
  refine wpQuiet_nil ?_
  intro _ hw'
  obtain ⟨pq, hw''⟩ := hw'
  subst hw''
  go_wp2_with fail
  go_ret
  exact ⟨rfl, HP.out pq⟩

theorem forms_any (a b c d e f : Bool) (n k : Int) (w : World) : Calls Try.prog 3 #[.agg #[.bool a, .bool b, .bool c, .bool d, .bool e, .bool f], .int .i64 n, .int .i64 k] w (RB true w) := by
  obtain ⟨xs, z, h1, h2⟩ := both_bytes n k
  rcases kinds k with h | h | h | h | h | h
  · subst h; exact forms_1 n 1 xs z a b c d e f _ _ rfl (Lib.hid (least_any 1)) (Lib.hid (refleast_any 1)) (Lib.hid (limit_any a b c d e f 1)) (Lib.hid (reflimit_any a b c d e f 1)) (Lib.hid h1) (Lib.hid h2) w
  · subst h; exact forms_2 n 2 xs z a b c d e f _ _ rfl (Lib.hid (least_any 2)) (Lib.hid (refleast_any 2)) (Lib.hid (limit_any a b c d e f 2)) (Lib.hid (reflimit_any a b c d e f 2)) (Lib.hid h1) (Lib.hid h2) w
  · subst h; exact forms_3 n 3 xs z a b c d e f _ _ rfl (Lib.hid (least_any 3)) (Lib.hid (refleast_any 3)) (Lib.hid (limit_any a b c d e f 3)) (Lib.hid (reflimit_any a b c d e f 3)) (Lib.hid h1) (Lib.hid h2) w
  · subst h; exact forms_4 n 4 xs z a b c d e f _ _ rfl (Lib.hid (least_any 4)) (Lib.hid (refleast_any 4)) (Lib.hid (limit_any a b c d e f 4)) (Lib.hid (reflimit_any a b c d e f 4)) (Lib.hid h1) (Lib.hid h2) w
  · subst h; exact forms_5 n 5 xs z a b c d e f _ _ rfl (Lib.hid (least_any 5)) (Lib.hid (refleast_any 5)) (Lib.hid (limit_any a b c d e f 5)) (Lib.hid (reflimit_any a b c d e f 5)) (Lib.hid h1) (Lib.hid h2) w
  · by_cases h3 : k < 1
    · exact forms_0a n k xs z a b c d e f _ _ h3 (Lib.hid (least_any k)) (Lib.hid (refleast_any k)) (Lib.hid (limit_any a b c d e f k)) (Lib.hid (reflimit_any a b c d e f k)) (Lib.hid h1) (Lib.hid h2) w
    · exact forms_0b n k xs z a b c d e f _ _ (by omega) (by omega) (Lib.hid (least_any k)) (Lib.hid (refleast_any k)) (Lib.hid (limit_any a b c d e f k)) (Lib.hid (reflimit_any a b c d e f k)) (Lib.hid h1) (Lib.hid h2) w

end Go.Proofs.Ytdiiolbkjmhmdaa
