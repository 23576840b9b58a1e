/- The law OptionBoth, walked. -/
import Derived.Test.YtagopeefobefnaaOptD
import Derived.Test.YtagopeefobefnaaOptE
import Derived.Deep.RegionHeld3
namespace Go.Proofs.Ytagopeefobefnaa
open Go.RowKit
set_option linter.unusedSimpArgs false
set_option linter.unusedVariables false

/-- Six truth values lie in a block. -/
def Six (B : Nat) (a b c d e f : Bool) (w : World) : Prop :=
  w.cell? ⟨B, 0, none⟩ = some (.bool a) ∧ w.cell? ⟨B, 1, none⟩ = some (.bool b) ∧ w.cell? ⟨B, 2, none⟩ = some (.bool c) ∧ w.cell? ⟨B, 3, none⟩ = some (.bool d) ∧ w.cell? ⟨B, 4, none⟩ = some (.bool e) ∧ w.cell? ⟨B, 5, none⟩ = some (.bool f)
theorem Six.below {B n : Nat} {a b c d e f : Bool} {w w1 : World} (h : Six B a b c d e f w) (hB : B < n) (hb : Below n w w1) : Six B a b c d e f w1 := by
  obtain ⟨h0, h1, h2, h3, h4, h5⟩ := h
  exact ⟨(hb.cell hB).trans h0, (hb.cell hB).trans h1, (hb.cell hB).trans h2, (hb.cell hB).trans h3, (hb.cell hB).trans h4, (hb.cell hB).trans h5⟩
theorem Six.lit (a b c d e f : Bool) (w : World) (t : TypeId) (B : Nat) (hB : B = w.heap.size) : Six B a b c d e f (w.alloc (.cells #[.bool a, .bool b, .bool c, .bool d, .bool e, .bool f] t)) := by
  refine ⟨?_, ?_, ?_, ?_, ?_, ?_⟩ <;> rw [World.cell?_alloc_at _ _ _ _ hB] <;> rfl

/-- What holds of the three records at every world within the statement. -/
def BothS (P Q R : Nat) (W : World) (a b c d e f a' b' c' d' e' f' o0 o1 o2 o3 o4 o5 : Bool) (w' : World) : Prop :=
  Below (R + 1) W w' ∧ w'.cell? ⟨P, 0, none⟩ = some (.bool a) ∧ w'.cell? ⟨P, 1, none⟩ = some (.bool b) ∧ w'.cell? ⟨P, 2, none⟩ = some (.bool c) ∧ w'.cell? ⟨P, 3, none⟩ = some (.bool d) ∧ w'.cell? ⟨P, 4, none⟩ = some (.bool e) ∧ w'.cell? ⟨P, 5, none⟩ = some (.bool f) ∧ w'.cell? ⟨Q, 0, none⟩ = some (.bool a') ∧ w'.cell? ⟨Q, 1, none⟩ = some (.bool b') ∧ w'.cell? ⟨Q, 2, none⟩ = some (.bool c') ∧ w'.cell? ⟨Q, 3, none⟩ = some (.bool d') ∧ w'.cell? ⟨Q, 4, none⟩ = some (.bool e') ∧ w'.cell? ⟨Q, 5, none⟩ = some (.bool f') ∧ w'.cell? ⟨R, 0, none⟩ = some (.bool o0) ∧ w'.cell? ⟨R, 1, none⟩ = some (.bool o1) ∧ w'.cell? ⟨R, 2, none⟩ = some (.bool o2) ∧ w'.cell? ⟨R, 3, none⟩ = some (.bool o3) ∧ w'.cell? ⟨R, 4, none⟩ = some (.bool o4) ∧ w'.cell? ⟨R, 5, none⟩ = some (.bool o5)
theorem BothS.next {P Q R : Nat} {W w1 w2 : World} {a b c d e f a' b' c' d' e' f' o0 o1 o2 o3 o4 o5 : Bool} (hb : Below w1.heap.size w1 w2) (hP : P < R + 1) (hQ : Q < R + 1) (hR : R + 1 ≤ W.heap.size) (h : BothS P Q R W a b c d e f a' b' c' d' e' f' o0 o1 o2 o3 o4 o5 w1) : BothS P Q R W a b c d e f a' b' c' d' e' f' o0 o1 o2 o3 o4 o5 w2 := by
  have hs := h.1.size
  have g : ∀ (B j : Nat) (v : Value), B < R + 1 → w1.cell? ⟨B, j, none⟩ = some v → w2.cell? ⟨B, j, none⟩ = some v := fun B j v hB hc => by rw [hb.cell (by simp; omega)]; exact hc
  obtain ⟨h', h0, h1, h2, h3, h4, h5, h6, h7, h8, h9, h10, h11, h12, h13, h14, h15, h16, h17⟩ := h
  exact ⟨below_then h' (by omega) hb, g _ _ _ (by omega) h0, g _ _ _ (by omega) h1, g _ _ _ (by omega) h2, g _ _ _ (by omega) h3, g _ _ _ (by omega) h4, g _ _ _ (by omega) h5, g _ _ _ (by omega) h6, g _ _ _ (by omega) h7, g _ _ _ (by omega) h8, g _ _ _ (by omega) h9, g _ _ _ (by omega) h10, g _ _ _ (by omega) h11, g _ _ _ (by omega) h12, g _ _ _ (by omega) h13, g _ _ _ (by omega) h14, g _ _ _ (by omega) h15, g _ _ _ (by omega) h16, g _ _ _ (by omega) h17⟩

set_option maxRecDepth 100000 in
set_option maxHeartbeats 8000000 in
theorem both_core (a b c d e f a' b' c' d' e' f' o0 o1 o2 o3 o4 o5 z v : Bool) (w : World)
    (c1 : Hid (∀ w, Calls Try.prog 5 #[.agg #[.bool a, .bool b, .bool c, .bool d, .bool e, .bool f], .agg #[.bool a', .bool b', .bool c', .bool d', .bool e', .bool f']] w (RV (.agg #[.bool o0, .bool o1, .bool o2, .bool o3, .bool o4, .bool o5]) w)))
    (c2 : Hid (∀ w, Calls Try.prog 7 #[.agg #[.bool a, .bool b, .bool c, .bool d, .bool e, .bool f], .agg #[.bool a', .bool b', .bool c', .bool d', .bool e', .bool f']] w (RV (.agg #[.bool o0, .bool o1, .bool o2, .bool o3, .bool o4, .bool o5]) w)))
    (c3 : Hid (∀ w, Calls Try.prog 5 #[.agg #[.bool a', .bool b', .bool c', .bool d', .bool e', .bool f'], .agg #[.bool a, .bool b, .bool c, .bool d, .bool e, .bool f]] w (RV (.agg #[.bool o0, .bool o1, .bool o2, .bool o3, .bool o4, .bool o5]) w)))
    (c4 : Hid (∀ w, Calls Try.prog 8 #[.agg #[.bool o0, .bool o1, .bool o2, .bool o3, .bool o4, .bool o5]] w (RB true w)))
    (c5 : Hid (∀ w, Calls Try.prog 5 #[.agg #[.bool o0, .bool o1, .bool o2, .bool o3, .bool o4, .bool o5], .agg #[.bool a, .bool b, .bool c, .bool d, .bool e, .bool f]] w (RV (.agg #[.bool o0, .bool o1, .bool o2, .bool o3, .bool o4, .bool o5]) w)))
    (c6 : Hid (∀ w, Calls Try.prog 5 #[.agg #[.bool a, .bool b, .bool c, .bool d, .bool e, .bool f], .agg #[.bool a, .bool b, .bool c, .bool d, .bool e, .bool f]] w (RV (.agg #[.bool a, .bool b, .bool c, .bool d, .bool e, .bool z]) w)))
    (c7 : Hid (∀ w, Calls Try.prog 9 #[.agg #[.bool a, .bool b, .bool c, .bool d, .bool e, .bool f]] w (RB v w)))
    (e1 : ∀ w, (binOp .eql 23 (.agg #[.bool o0, .bool o1, .bool o2, .bool o3, .bool o4, .bool o5]) (.agg #[.bool o0, .bool o1, .bool o2, .bool o3, .bool o4, .bool o5])).run Try.prog w = .ok (.bool true) w)
    (e2 : ∀ w, (binOp .eql 23 (.agg #[.bool a, .bool b, .bool c, .bool d, .bool e, .bool z]) (.agg #[.bool a, .bool b, .bool c, .bool d, .bool e, .bool f])).run Try.prog w = .ok (.bool v) w) :
    Calls Try.prog 3 #[.agg #[.bool a, .bool b, .bool c, .bool d, .bool e, .bool f], .agg #[.bool a', .bool b', .bool c', .bool d', .bool e', .bool f']] w (RB true w) := by
  go_enter Try.func3, Try.ntmps3
  go_wp2_with fail
  refine (c1.out _).mono ?_
  rintro r w1 ⟨rfl, hb1⟩
  have hsz : w.heap.size + 2 ≤ w1.heap.size := by have := hb1.size; simp at this; omega
  have hA0 : Six w.heap.size a b c d e f w1 := by
    have h0 := Six.lit a b c d e f w 23 _ rfl
    have h1 := h0.below (by simp) (below_alloc (Below.refl _ _) (.cells #[.bool a', .bool b', .bool c', .bool d', .bool e', .bool f'] 23))
    exact h1.below (by simp; omega) hb1
  have hB0 : Six (w.heap.size + 1) a' b' c' d' e' f' w1 := (Six.lit a' b' c' d' e' f' _ 23 _ (by simp)).below (by simp) hb1
  have hl := below_alloc (Below.refl w1.heap.size w1) (.cells #[.bool o0, .bool o1, .bool o2, .bool o3, .bool o4, .bool o5] 23)
  have hO0 := Six.lit o0 o1 o2 o3 o4 o5 w1 23 _ rfl
  have hS0 : BothS w.heap.size (w.heap.size + 1) w1.heap.size (w1.alloc (.cells #[.bool o0, .bool o1, .bool o2, .bool o3, .bool o4, .bool o5] 23)) a b c d e f a' b' c' d' e' f' o0 o1 o2 o3 o4 o5 (w1.alloc (.cells #[.bool o0, .bool o1, .bool o2, .bool o3, .bool o4, .bool o5] 23)).drew := by
    obtain ⟨p0, p1, p2, p3, p4, p5⟩ := hA0.below (by omega) hl
    obtain ⟨q0, q1, q2, q3, q4, q5⟩ := hB0.below (by omega) hl
    obtain ⟨r0, r1, r2, r3, r4, r5⟩ := hO0
    exact ⟨(Below.refl _ _).drew, p0, p1, p2, p3, p4, p5, q0, q1, q2, q3, q4, q5, r0, r1, r2, r3, r4, r5⟩
  have fin : ∀ w', BothS w.heap.size (w.heap.size + 1) w1.heap.size (w1.alloc (.cells #[.bool o0, .bool o1, .bool o2, .bool o3, .bool o4, .bool o5] 23)) a b c d e f a' b' c' d' e' f' o0 o1 o2 o3 o4 o5 w' → Below w.heap.size w w' := fun w' h =>
    (below_alloc' ((below_alloc (below_alloc (Below.refl _ _) _) _).trans (hb1.mono (by simp; omega))) (Nat.le_refl _) _).trans (h.1.mono (by omega))
  have FIN := Lib.hid fin
  clear fin
  have HB1 := Lib.hid hb1
  have HS0 := Lib.hid hS0
  clear hb1 hA0 hB0 hO0 hS0 hl
  go_wp2_with fail
  go_region_held3 (fun w' => (Below (w1.heap.size + 1) (w1.alloc (.cells #[.bool o0, .bool o1, .bool o2, .bool o3, .bool o4, .bool o5] 23)) w' ∧ w'.cell? ⟨w.heap.size, 0, none⟩ = some (.bool a) ∧ w'.cell? ⟨w.heap.size, 1, none⟩ = some (.bool b) ∧ w'.cell? ⟨w.heap.size, 2, none⟩ = some (.bool c) ∧ w'.cell? ⟨w.heap.size, 3, none⟩ = some (.bool d) ∧ w'.cell? ⟨w.heap.size, 4, none⟩ = some (.bool e) ∧ w'.cell? ⟨w.heap.size, 5, none⟩ = some (.bool f) ∧ w'.cell? ⟨w.heap.size + 1, 0, none⟩ = some (.bool a') ∧ w'.cell? ⟨w.heap.size + 1, 1, none⟩ = some (.bool b') ∧ w'.cell? ⟨w.heap.size + 1, 2, none⟩ = some (.bool c') ∧ w'.cell? ⟨w.heap.size + 1, 3, none⟩ = some (.bool d') ∧ w'.cell? ⟨w.heap.size + 1, 4, none⟩ = some (.bool e') ∧ w'.cell? ⟨w.heap.size + 1, 5, none⟩ = some (.bool f') ∧ w'.cell? ⟨w1.heap.size, 0, none⟩ = some (.bool o0) ∧ w'.cell? ⟨w1.heap.size, 1, none⟩ = some (.bool o1) ∧ w'.cell? ⟨w1.heap.size, 2, none⟩ = some (.bool o2) ∧ w'.cell? ⟨w1.heap.size, 3, none⟩ = some (.bool o3) ∧ w'.cell? ⟨w1.heap.size, 4, none⟩ = some (.bool o4) ∧ w'.cell? ⟨w1.heap.size, 5, none⟩ = some (.bool o5))) (first | exact HS0.out | (refine BothS.next hb ?_ ?_ ?_ ?_ <;> first | assumption | omega | (simp; done)))
    (first
      | (go_at_call 6; refine (alive_any _).mono ?_; rintro r w' ⟨rfl, hb⟩)
      | (go_at_call 7; refine (c2.out _).mono ?_; rintro r w' ⟨rfl, hb⟩)
      | (go_at_call 8; refine (c4.out _).mono ?_; rintro r w' ⟨rfl, hb⟩)
      | (go_at_call 9; refine (c7.out _).mono ?_; rintro r w' ⟨rfl, hb⟩)
      | (go_at_call 5; ((with_reducible refine (c3.out _).mono ?_); rintro r w' ⟨rfl, hb⟩))
      | (go_at_call 5; ((with_reducible refine (c5.out _).mono ?_); rintro r w' ⟨rfl, hb⟩))
      | (go_at_call 5; ((with_reducible refine (c6.out _).mono ?_); rintro r w' ⟨rfl, hb⟩)))
  all_goals go_wp2_with fail
  all_goals go_ret
  all_goals exact ⟨rfl, FIN.out _ (by assumption)⟩

theorem z_eq (a b c d e f : Bool) : (a == a && (b == b && (c == c && (d == d && (e == e && ((f && f && d) == f && true)))))) = (d || !f) := by
  cases a <;> cases b <;> cases c <;> cases d <;> cases e <;> cases f <;> rfl

theorem both_law (a b c d e f a' b' c' d' e' f' : Bool) (w : World) :
    Calls Try.prog 3 #[.agg #[.bool a, .bool b, .bool c, .bool d, .bool e, .bool f], .agg #[.bool a', .bool b', .bool c', .bool d', .bool e', .bool f']] w (RB true w) := by
  refine both_core a b c d e f a' b' c' d' e' f' (a && a') (b && b') (c && c') (d && d') (e && e') (f && f' && (d && d')) (f && f && d) (d || !f) w
    (fun w => both_any _ _ _ _ _ _ _ _ _ _ _ _ w) (fun w => refboth_any _ _ _ _ _ _ _ _ _ _ _ _ w) (fun w => ?_) (fun w => ?_) (fun w => ?_) (fun w => ?_) (fun w => refvalid_any a b c d e f w) (fun w => ?_) (fun w => ?_)
  · have h := both_any a' b' c' d' e' f' a b c d e f w
    rwa [Bool.and_comm a' a, Bool.and_comm b' b, Bool.and_comm c' c, Bool.and_comm d' d, Bool.and_comm e' e, Bool.and_comm f' f] at h
  · have h := valid_any (a && a') (b && b') (c && c') (d && d') (e && e') (f && f' && (d && d')) w
    have e : ((d && d') || !(f && f' && (d && d'))) = true := by cases d <;> cases d' <;> cases f <;> cases f' <;> rfl
    rwa [e] at h
  · have h := both_any (a && a') (b && b') (c && c') (d && d') (e && e') (f && f' && (d && d')) a b c d e f w
    have g : ∀ x y : Bool, (x && y && x) = (x && y) := by decide
    have g2 : (f && f' && (d && d') && f && (d && d')) = (f && f' && (d && d')) := by cases d <;> cases d' <;> cases f <;> cases f' <;> rfl
    rwa [g a a', g b b', g c c', g d d', g e e', g2] at h
  · have h := both_any a b c d e f a b c d e f w
    have g : ∀ x : Bool, (x && x) = x := by decide
    rwa [g a, g b, g c, g d, g e] at h
  · rw [eq_opts]; simp
  · rw [eq_opts, z_eq]

end Go.Proofs.Ytagopeefobefnaa
