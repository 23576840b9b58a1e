/- The law OptionFamilies, walked. -/
import Derived.Test.YtagopeefobefnaaOptG
import Derived.Test.YtagopeefobefnaaOpen
import Derived.Deep.RegionHeld3
namespace Go.Proofs.Ytagopeefobefnaa
open Go.ChangeShapes Go.WideShapes Go.ChangeAt Go.RowKit
set_option linter.unusedSimpArgs false
set_option linter.unusedVariables false

theorem grown_of_below {w w1 : World} (h : Below w.heap.size w w1) (row : Option Nat) : w.grownBy w1 row := ⟨h.os, h.tape, h.output, h.size, fun i hi _ => h.block i hi⟩
theorem own_below {w w1 : World} {base : Nat} {e : TypeId} {size n : Nat} {v : Value} {xs : List Value} (h : w.ownsRow base e size v n xs) (hb : Below w.heap.size w w1) : w1.ownsRow base e size v n xs :=
  h.kept (grown_of_below hb none) (by cases v.ownBlock <;> simp)
theorem below_drewN {B : Nat} {w W : World} (h : Below B w W) (n : Nat) : Below B w (W.drewN n) := ⟨h.os, h.tape, h.output, h.size, h.block⟩

/-- slices.Equal at two rows of the call's own that hold the same numbers. -/
theorem equal_own {w : World} {b1 b2 : Nat} {v1 v2 : Value} {xs : List Int} (hn : xs ≠ []) (hbig : xs.length ≤ 100) (h1 : w.ownsRow b1 3 1 v1 xs.length (xs.map (Value.int .i64))) (h2 : w.ownsRow b2 3 1 v2 xs.length (xs.map (Value.int .i64))) :
    Calls Try.prog 16 #[v1, v2] w (RB true w) := by
  have h1' := h1
  have h2' := h2
  have hl : xs.length ≠ 0 := fun e => hn (List.eq_nil_of_length_eq_zero e)
  rcases h1.2 with ⟨_, e⟩ | ⟨g1, cap1, cur1, rfl, _⟩
  · exact absurd e hl
  rcases h2.2 with ⟨_, e⟩ | ⟨g2, cap2, cur2, rfl, _⟩
  · exact absurd e hl
  have cell : ∀ {g cap : Nat} {b : Nat}, w.ownsRow b 3 1 (.slice (some ⟨g, 0, none⟩) xs.length cap) xs.length (xs.map (Value.int .i64)) → ∀ j, j < xs.length → w.cell? ⟨g, 0 + j, none⟩ = some (.int .i64 (xs.getD j 0)) := fun {g cap b} h j hj => by
    have := h.cells (g := g) rfl j (.int .i64 (xs.getD j 0)) (by simp [List.getD, List.getElem?_eq_getElem hj])
    rw [add_plain] at this
    rw [Nat.zero_add]; exact this
  refine (Try.slices_Equal_int g1 0 xs.length cap1 g2 0 xs.length cap2 xs xs w (Nat.le_refl _) (Nat.le_refl _) (by omega) (by omega) (cell h1') (cell h2')).mono fun e w' ⟨he, q, hw⟩ => ?_
  subst hw
  exact ⟨by rw [he]; simp, below_drewN (Below.refl _ _) q⟩

def famsI (d : Bool) : List Int := if d = true then [1, 2] else [1]
theorem fams_eq (d : Bool) : fams d = (famsI d).map (Value.int .i64) := by cases d <;> rfl

def FamS (P R : Nat) (W : World) (a b c d e f : Bool) (v : Value) (w' : World) : Prop :=
  Below R W w' ∧ w'.ownsRow P 3 1 v (famsI d).length ((famsI d).map (Value.int .i64)) ∧ w'.cell? ⟨P, 0, none⟩ = some (.bool a) ∧ w'.cell? ⟨P, 1, none⟩ = some (.bool b) ∧ w'.cell? ⟨P, 2, none⟩ = some (.bool c) ∧ w'.cell? ⟨P, 3, none⟩ = some (.bool d) ∧ w'.cell? ⟨P, 4, none⟩ = some (.bool e) ∧ w'.cell? ⟨P, 5, none⟩ = some (.bool f)
theorem FamS.next {P R : Nat} {W w1 w2 : World} {a b c d e f : Bool} {v : Value} (hb : Below w1.heap.size w1 w2) (hP : P < R) (hR : R ≤ W.heap.size) (h : FamS P R W a b c d e f v w1) : FamS P R W a b c d e f v w2 := by
  have hs := h.1.size
  have g : ∀ (j : Nat) (v : Value), w1.cell? ⟨P, j, none⟩ = some v → w2.cell? ⟨P, j, none⟩ = some v := fun j v hc => by rw [hb.cell (by simp; omega)]; exact hc
  obtain ⟨h', ho, h0, h1, h2, h3, h4, h5⟩ := h
  exact ⟨below_then h' (by omega) hb, own_below ho hb, g _ _ h0, g _ _ h1, g _ _ h2, g _ _ h3, g _ _ h4, g _ _ h5⟩
theorem FamS.own {P R : Nat} {W w1 : World} {a b c d e f : Bool} {v : Value} (h : FamS P R W a b c d e f v w1) : w1.ownsRow P 3 1 v (famsI d).length ((famsI d).map (Value.int .i64)) := h.2.1

theorem FamS.bel {P R : Nat} {W w1 : World} {a b c d e f : Bool} {v : Value} (h : FamS P R W a b c d e f v w1) : Below R W w1 := h.1

set_option maxRecDepth 100000 in
set_option maxHeartbeats 8000000 in
theorem families_false (a b c e f : Bool) (n : Int) (w : World) (z1 z2 : Bool) (z3 : Int)
    (C1 : Hid (∀ w, Calls Try.prog 11 #[.agg #[.bool a, .bool b, .bool c, .bool false, .bool e, .bool f], .int .i64 n] w (RB z1 w))) (C2 : Hid (∀ w, Calls Try.prog 10 #[.agg #[.bool a, .bool b, .bool c, .bool false, .bool e, .bool f], .int .i64 n] w (RB z1 w)))
    (C3 : Hid (∀ w, Calls Try.prog 12 #[.agg #[.bool a, .bool b, .bool c, .bool false, .bool e, .bool f], .int .i64 n] w (RB z2 w))) (C4 : Hid (∀ w, Calls Try.prog 13 #[.agg #[.bool a, .bool b, .bool c, .bool false, .bool e, .bool f], .int .i64 n] w (RB z2 w)))
    (C5 : Hid (∀ w, Calls Try.prog 14 #[.agg #[.bool a, .bool b, .bool c, .bool false, .bool e, .bool f]] w (RV (.int .i64 z3) w))) (C6 : Hid (∀ w, Calls Try.prog 15 #[.agg #[.bool a, .bool b, .bool c, .bool false, .bool e, .bool f]] w (RV (.int .i64 z3) w)))
    (C7 : Hid (∀ w, Calls Try.prog 17 #[.agg #[.bool a, .bool b, .bool c, .bool false, .bool e, .bool f]] w (OwnPost 3 (famsI false).length ((famsI false).map (Value.int .i64)) w)))
    (CM : Hid (∀ w, Calls Try.prog 10 #[.agg #[.bool a, .bool b, .bool c, .bool false, .bool e, .bool f], .int .i64 2] w (RB false w))) :
    Calls Try.prog 4 #[.agg #[.bool a, .bool b, .bool c, .bool false, .bool e, .bool f], .int .i64 n] w (RB true w) := by
  obtain ⟨iI, hiI, hz0, hz1, hz2⟩ := info_parts Try.infoInt
  go_enter Try.func4, Try.ntmps4
  go_wp2_with fail
  refine (CM.out _).mono ?_
  rintro r w1 ⟨rfl, hb⟩
  have hsz : w.heap.size + 2 ≤ w1.heap.size := by have := hb.size; simp at this; omega
  have ho1 := own_below (own_lit (w.alloc (.cells #[.bool a, .bool b, .bool c, .bool false, .bool e, .bool f] 23)) w.heap.size (w.heap.size + 1) (.int .i64 1) 3 (by simp) (by simp)) hb
  have hbel : Below w.heap.size w w1 := below_then' (below_alloc (below_alloc (Below.refl _ _) _) _) hb
  have hc : ∀ j v, #[Value.bool a, .bool b, .bool c, .bool false, .bool e, .bool f][j]? = some v → w1.cell? ⟨w.heap.size, j, none⟩ = some v := fun j v hj => by
    rw [hb.cell (by simp; omega), World.cell?_alloc_past _ _ _ (by simp), World.cell?_alloc_at _ _ _ _ rfl]; simpa using hj
  have hS0 : FamS w.heap.size w1.heap.size w1 a b c false e f (.slice (some ⟨w.heap.size + 1, 0, none⟩) 1 1) w1.drew := ⟨(Below.refl _ _).drew, own_below ho1 (Below.refl _ _).drew, hc 0 _ rfl, hc 1 _ rfl, hc 2 _ rfl, hc 3 _ rfl, hc 4 _ rfl, hc 5 _ rfl⟩
  have HB := Lib.hid hbel
  have HS0 := Lib.hid hS0
  clear hb ho1 hbel hc hS0
  go_wp2_with fail
  go_region_held3 (fun w' => Below w1.heap.size w1 w' ∧ w'.ownsRow w.heap.size 3 1 (.slice (some ⟨w.heap.size + 1, 0, none⟩) 1 1) (famsI false).length ((famsI false).map (Value.int .i64)) ∧ w'.cell? ⟨w.heap.size, 0, none⟩ = some (.bool a) ∧ w'.cell? ⟨w.heap.size, 1, none⟩ = some (.bool b) ∧ w'.cell? ⟨w.heap.size, 2, none⟩ = some (.bool c) ∧ w'.cell? ⟨w.heap.size, 3, none⟩ = some (.bool false) ∧ w'.cell? ⟨w.heap.size, 4, none⟩ = some (.bool e) ∧ w'.cell? ⟨w.heap.size, 5, none⟩ = some (.bool f)) (first | exact HS0.out | (refine FamS.next hb ?_ ?_ ?_ <;> first | assumption | omega))
    (first
      | (go_at_call 6; refine (alive_any _).mono ?_; rintro r w' ⟨rfl, hb⟩)
      | (go_at_call 11; refine (C1.out _).mono ?_; rintro r w' ⟨rfl, hb⟩)
      | (go_at_call 10; refine (C2.out _).mono ?_; rintro r w' ⟨rfl, hb⟩)
      | (go_at_call 12; refine (C3.out _).mono ?_; rintro r w' ⟨rfl, hb⟩)
      | (go_at_call 13; refine (C4.out _).mono ?_; rintro r w' ⟨rfl, hb⟩)
      | (go_at_call 14; refine (C5.out _).mono ?_; rintro r w' ⟨rfl, hb⟩)
      | (go_at_call 15; refine (C6.out _).mono ?_; rintro r w' ⟨rfl, hb⟩)
      | (go_at_call 17; refine (C7.out _).mono ?_; rintro r w' ⟨vf, rfl, hown, hb⟩)
      | (go_at_call 16; refine (equal_own (xs := famsI false) (by decide) (by decide) hown (FamS.own (a := a) (b := b) (c := c) (d := false) (e := e) (f := f) (P := w.heap.size) (R := w1.heap.size) (W := w1) (by assumption))).mono ?_; rintro r w' ⟨rfl, hb⟩))
  all_goals go_wp2_with fail
  all_goals go_ret
  all_goals exact ⟨rfl, HB.out.trans ((FamS.bel (a := a) (b := b) (c := c) (d := false) (e := e) (f := f) (P := w.heap.size) (R := w1.heap.size) (W := w1) (v := (.slice (some ⟨w.heap.size + 1, 0, none⟩) 1 1)) (by assumption)).mono (by omega))⟩

set_option maxRecDepth 100000 in
set_option maxHeartbeats 8000000 in
theorem families_true (a b c e f : Bool) (n : Int) (w : World) (z1 z2 : Bool) (z3 : Int)
    (C1 : Hid (∀ w, Calls Try.prog 11 #[.agg #[.bool a, .bool b, .bool c, .bool true, .bool e, .bool f], .int .i64 n] w (RB z1 w))) (C2 : Hid (∀ w, Calls Try.prog 10 #[.agg #[.bool a, .bool b, .bool c, .bool true, .bool e, .bool f], .int .i64 n] w (RB z1 w)))
    (C3 : Hid (∀ w, Calls Try.prog 12 #[.agg #[.bool a, .bool b, .bool c, .bool true, .bool e, .bool f], .int .i64 n] w (RB z2 w))) (C4 : Hid (∀ w, Calls Try.prog 13 #[.agg #[.bool a, .bool b, .bool c, .bool true, .bool e, .bool f], .int .i64 n] w (RB z2 w)))
    (C5 : Hid (∀ w, Calls Try.prog 14 #[.agg #[.bool a, .bool b, .bool c, .bool true, .bool e, .bool f]] w (RV (.int .i64 z3) w))) (C6 : Hid (∀ w, Calls Try.prog 15 #[.agg #[.bool a, .bool b, .bool c, .bool true, .bool e, .bool f]] w (RV (.int .i64 z3) w)))
    (C7 : Hid (∀ w, Calls Try.prog 17 #[.agg #[.bool a, .bool b, .bool c, .bool true, .bool e, .bool f]] w (OwnPost 3 (famsI true).length ((famsI true).map (Value.int .i64)) w)))
    (CM : Hid (∀ w, Calls Try.prog 10 #[.agg #[.bool a, .bool b, .bool c, .bool true, .bool e, .bool f], .int .i64 2] w (RB true w))) :
    Calls Try.prog 4 #[.agg #[.bool a, .bool b, .bool c, .bool true, .bool e, .bool f], .int .i64 n] w (RB true w) := by
  obtain ⟨iI, hiI, hz0, hz1, hz2⟩ := info_parts Try.infoInt
  go_enter Try.func4, Try.ntmps4
  go_wp2_with fail
  refine (CM.out _).mono ?_
  rintro r w1 ⟨rfl, hb⟩
  have hsz : w.heap.size + 2 ≤ w1.heap.size := by have := hb.size; simp at this; omega
  have ho1 := own_below (own_lit (w.alloc (.cells #[.bool a, .bool b, .bool c, .bool true, .bool e, .bool f] 23)) w.heap.size (w.heap.size + 1) (.int .i64 1) 3 (by simp) (by simp)) hb
  have hbel : Below w.heap.size w w1 := below_then' (below_alloc (below_alloc (Below.refl _ _) _) _) hb
  have hc : ∀ j v, #[Value.bool a, .bool b, .bool c, .bool true, .bool e, .bool f][j]? = some v → w1.cell? ⟨w.heap.size, j, none⟩ = some v := fun j v hj => by
    rw [hb.cell (by simp; omega), World.cell?_alloc_past _ _ _ (by simp), World.cell?_alloc_at _ _ _ _ rfl]; simpa using hj
  have HO := Lib.hid (ho1.alloc (.cells #[.int .i64 2] 3))
  go_wp2_with (at_builtin; refine wpList_append_own _ rfl _ _ 28 rfl w.heap.size 3 iI (.int .i64 0) 1 8 Try.underlying28 hiI hz0 hz1 hz2 rfl (by decide) _ _ _ rfl HO.out ⟨w1.heap.size, 0, none⟩ 1 1 [.int .i64 2] rfl rfl ?c1 ?c2 ?c3 ?c4 ?c5 ?_)
  case c1 => intro j u hj; match j, hj with | 0, hj => (simp at hj; subst hj; rw [add_plain, World.cell?_alloc_at _ _ _ _ (by simp)]; rfl) | j + 1, hj => simp at hj
  case c2 => simp [Value.oneCell']
  case c3 => unfold maxLen; omega
  case c4 => omega
  case c5 => simp; omega
  intro v' w2 hown' hgrow _
  have hne : ∀ j v, w1.cell? ⟨w.heap.size, j, none⟩ = some v → w2.cell? ⟨w.heap.size, j, none⟩ = some v := fun j v h =>
    hgrow.cell (by rw [World.cell?_alloc_past _ _ _ (by omega)]; exact h) (by simp [Value.ownBlock])
  have hsz2 : w.heap.size + 2 ≤ w2.heap.size := by have := hgrow.size; simp at this; omega
  have hbel2 : Below w.heap.size w w2 := (below_alloc hbel _).grown hgrow (by simp; omega) (fun k hk => (HO.out.lt k hk).1)
  have hS0 : FamS w.heap.size w2.heap.size w2 a b c true e f v' w2.drew := ⟨(Below.refl _ _).drew, own_below hown' (Below.refl _ _).drew, hne _ _ (hc 0 _ rfl), hne _ _ (hc 1 _ rfl), hne _ _ (hc 2 _ rfl), hne _ _ (hc 3 _ rfl), hne _ _ (hc 4 _ rfl), hne _ _ (hc 5 _ rfl)⟩
  clear hown' hgrow hne HO hbel hsz
  have hbel := hbel2
  clear hbel2
  have HB := Lib.hid hbel
  have HS0 := Lib.hid hS0
  clear hb ho1 hbel hc hS0
  go_wp2_with fail
  go_region_held3 (fun w' => Below w2.heap.size w2 w' ∧ w'.ownsRow w.heap.size 3 1 v' (famsI true).length ((famsI true).map (Value.int .i64)) ∧ w'.cell? ⟨w.heap.size, 0, none⟩ = some (.bool a) ∧ w'.cell? ⟨w.heap.size, 1, none⟩ = some (.bool b) ∧ w'.cell? ⟨w.heap.size, 2, none⟩ = some (.bool c) ∧ w'.cell? ⟨w.heap.size, 3, none⟩ = some (.bool true) ∧ w'.cell? ⟨w.heap.size, 4, none⟩ = some (.bool e) ∧ w'.cell? ⟨w.heap.size, 5, none⟩ = some (.bool f)) (first | exact HS0.out | (refine FamS.next hb ?_ ?_ ?_ <;> first | assumption | omega))
    (first
      | (go_at_call 6; refine (alive_any _).mono ?_; rintro r w' ⟨rfl, hb⟩)
      | (go_at_call 11; refine (C1.out _).mono ?_; rintro r w' ⟨rfl, hb⟩)
      | (go_at_call 10; refine (C2.out _).mono ?_; rintro r w' ⟨rfl, hb⟩)
      | (go_at_call 12; refine (C3.out _).mono ?_; rintro r w' ⟨rfl, hb⟩)
      | (go_at_call 13; refine (C4.out _).mono ?_; rintro r w' ⟨rfl, hb⟩)
      | (go_at_call 14; refine (C5.out _).mono ?_; rintro r w' ⟨rfl, hb⟩)
      | (go_at_call 15; refine (C6.out _).mono ?_; rintro r w' ⟨rfl, hb⟩)
      | (go_at_call 17; refine (C7.out _).mono ?_; rintro r w' ⟨vf, rfl, hown, hb⟩)
      | (go_at_call 16; refine (equal_own (xs := famsI true) (by decide) (by decide) hown (FamS.own (a := a) (b := b) (c := c) (d := true) (e := e) (f := f) (P := w.heap.size) (R := w2.heap.size) (W := w2) (by assumption))).mono ?_; rintro r w' ⟨rfl, hb⟩))
  all_goals go_wp2_with fail
  all_goals go_ret
  all_goals exact ⟨rfl, HB.out.trans ((FamS.bel (a := a) (b := b) (c := c) (d := true) (e := e) (f := f) (P := w.heap.size) (R := w2.heap.size) (W := w2) (v := v') (by assumption)).mono (by omega))⟩

theorem families_law (a b c d e f : Bool) (n : Int) (w : World) :
    Calls Try.prog 4 #[.agg #[.bool a, .bool b, .bool c, .bool d, .bool e, .bool f], .int .i64 n] w (RB true w) := by
  have cm : ∀ (W : World), Calls Try.prog 10 #[.agg #[.bool a, .bool b, .bool c, .bool d, .bool e, .bool f], .int .i64 2] W (RB d W) := fun W => by
    have h := refmp_any a b c d e f 2 W
    rwa [famB2] at h
  have c7 := families_any a b c d e f
  rw [fams_eq, List.length_map] at c7
  have h1 := mp_any a b c d e f n
  have h2 := refmp_any a b c d e f n
  have h3 := add_any a b c d e f n
  have h4 := refadd_any a b c d e f n
  have h5 := width_any a b c d e f
  have h6 := refwidth_any a b c d e f
  cases d
  · exact families_false a b c e f n w _ _ _ h1 h2 h3 h4 h5 h6 c7 cm
  · exact families_true a b c e f n w _ _ _ h1 h2 h3 h4 h5 h6 c7 cm

end Go.Proofs.Ytagopeefobefnaa
