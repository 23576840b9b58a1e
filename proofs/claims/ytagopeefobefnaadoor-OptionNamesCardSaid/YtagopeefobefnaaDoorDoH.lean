/- option.Parse. -/
import Derived.Test.YtagopeefobefnaaDoorDoG
namespace Go.Proofs.YtagopeefobefnaaDoor
open Go.RowKit
set_option linter.unusedSimpArgs false
set_option linter.unusedVariables false

def sp : ByteArray := ⟨#[32]⟩
def pieces (s : ByteArray) : List ByteArray := Lib.splitB sp 0 (Lib.countB s sp) s
theorem pieces_len (s : ByteArray) : (pieces s).length = Lib.countB s sp + 1 := Lib.splitB_all sp (by decide) 0 _ s rfl
theorem pieces_le (s : ByteArray) : (pieces s).length ≤ s.size + 1 := by
  rw [pieces_len]
  have := Lib.countB_le sp (by decide) s.size s (Nat.le_refl _)
  omega
theorem rds_new (w : World) (xs : List ByteArray) : RdS (w.alloc (.cells (xs.map Value.string).toArray 9)) (.slice (some ⟨w.heap.size, 0, none⟩) xs.length xs.length) xs :=
  ⟨some ⟨w.heap.size, 0, none⟩, xs.length, rfl, Nat.le_refl _, fun _ => ⟨w.heap.size, 0, rfl, by simp, fun j x hj => by
    rw [World.cell?_alloc_at _ _ _ _ rfl, Nat.zero_add]
    simp [hj]⟩⟩
theorem split_any (s : ByteArray) (m : Int) (w : World) (hs : s.size ≤ 1000) (hm : w.cell? ⟨2, 0, none⟩ = some (.int .i64 m)) :
    Calls Tryd.prog 26 #[.string s, .string ⟨#[32]⟩] w fun e w' => ∃ A c, e = .returned (.slice A (pieces s).length c) ∧ RdS w' (.slice A (pieces s).length c) (pieces s) ∧ Below w.heap.size w w' := by
  refine (Tryd.strings_Split s sp m w (by omega) hm (by decide)).mono ?_
  rintro e w' ⟨rfl, rfl⟩
  rw [← pieces_len]
  exact ⟨_, _, rfl, rds_new w (pieces s), below_alloc (Below.refl _ _) _⟩
def textP (p : Nat → Bool) : ByteArray := text (p 0) (p 1) (p 2) (p 3) (p 4) (p 5)
/-- The options with a text. -/
def parseP (s : ByteArray) : Option (Nat → Bool) :=
  if (s.toList == [45]) = true then some zeroP
  else match ofP (pieces s) zeroP with
    | none => none
    | some p => if ((textP p).toList == s.toList) = true then some p else none

set_option maxRecDepth 100000 in
set_option maxHeartbeats 1000000 in
theorem parse_dash (s : ByteArray) (w : World) (hz : (s.toList == [45]) = true) : Calls Tryd.prog 13 #[.string s] w (RV (ansP (some zeroP)) w) := by
  go_enter Tryd.func13, Tryd.ntmps13
  go_wp2_with fail
  refine bodyPost_ret (v := ansP (some zeroP)) (by simp [results, Tryd.results13, go_sem, ansP, aggP, zeroP]) rfl ⟨rfl, ?_⟩
  exact below_alloc (Below.refl _ _) _

structure ParAt (w : World) (R : Nat) (wr : World) : Prop where
  bel : Below w.heap.size w wr
  loR : w.heap.size ≤ R
  hiR : R < wr.heap.size
  cr : ∀ j, j < 6 → wr.cell? ⟨R, j, none⟩ = some (.bool false)
  fr : ∀ j, j < 6 → wr.frozen? ⟨R, j, none⟩ = false
theorem ParAt.below {w : World} {R : Nat} {wr w1 : World} (h : ParAt w R wr) (hb : Below wr.heap.size wr w1) : ParAt w R w1 where
  bel := below_then' h.bel hb
  loR := h.loR
  hiR := Nat.lt_of_lt_of_le h.hiR hb.size
  cr := fun j hj => by rw [hb.cell h.hiR]; exact h.cr j hj
  fr := fun j hj => by rw [hb.frozen h.hiR]; exact h.fr j hj

set_option maxRecDepth 100000 in
set_option maxHeartbeats 1000000 in
theorem parse_none (s : ByteArray) (m : Int) (w : World) (hs : s.size ≤ 1000) (hm : w.cell? ⟨2, 0, none⟩ = some (.int .i64 m)) (hz : (s.toList == [45]) = false) (ho : ofP (pieces s) zeroP = none) :
    Calls Tryd.prog 13 #[.string s] w (RV (ansP none) w) := by
  have HSP := Lib.hid (split_any s m (w.alloc (.cells #[.bool false, .bool false, .bool false, .bool false, .bool false, .bool false] 25)) hs (by rw [World.cell?_alloc_past _ _ _ (World.block_lt_of_cell? _ _ hm)]; exact hm))
  have HOF : Hid (∀ w v, RdS w v (pieces s) → Calls Tryd.prog 7 #[v] w (RV (.tuple #[.agg #[.bool false, .bool false, .bool false, .bool false, .bool false, .bool false], .bool false]) w)) := fun w v hr => by
    have := optOf_any w v (pieces s) hr (by have := pieces_le s; omega)
    rw [ho] at this
    exact this
  have hpa : ParAt w w.heap.size (w.alloc (.cells #[.bool false, .bool false, .bool false, .bool false, .bool false, .bool false] 25)) := by
    refine ⟨below_alloc (Below.refl _ _) _, Nat.le_refl _, by simp, fun j hj => ?_, fun j hj => ?_⟩
    · rw [World.cell?_alloc_at _ _ _ _ rfl]; exact bit_cells' false false false false false false j hj |>.trans (by congr 2; unfold bit; split <;> rfl)
    · rw [World.frozen?_alloc_at _ _ _ _ rfl]
  obtain ⟨R, hR⟩ : ∃ R, R = w.heap.size := ⟨_, rfl⟩
  have HPA := Lib.hid hpa
  obtain ⟨n, hn⟩ : ∃ n, n = (pieces s).length := ⟨_, rfl⟩
  rw [← hn] at HSP
  clear hm hs ho hpa hn
  go_enter Tryd.func13, Tryd.ntmps13
  go_wp2_with fail
  refine HSP.out.mono ?_
  rintro r w1 ⟨A, cp, rfl, hr, hb⟩
  have HR := Lib.hid hr
  have HB := Lib.hid hb
  clear hr hb
  go_wp2_with fail
  refine (HOF.out _ _ HR.out).mono ?_
  rintro r w2 ⟨rfl, hb2⟩
  have hat := (HPA.out.below HB.out).below hb2
  have hat2 := hat.below (below_alloc (Below.refl _ _) (.cells #[.bool false, .bool false, .bool false, .bool false, .bool false, .bool false] 25))
  rw [← hR] at hat hat2 ⊢
  have r0 := hat2.cr 0 (by omega)
  have r1 := hat2.cr 1 (by omega)
  have r2 := hat2.cr 2 (by omega)
  have r3 := hat2.cr 3 (by omega)
  have r4 := hat2.cr 4 (by omega)
  have r5 := hat2.cr 5 (by omega)
  have q0 := hat2.fr 0 (by omega)
  have q1 := hat2.fr 1 (by omega)
  have q2 := hat2.fr 2 (by omega)
  have q3 := hat2.fr 3 (by omega)
  have q4 := hat2.fr 4 (by omega)
  have q5 := hat2.fr 5 (by omega)
  have HA := Lib.hid hat2
  clear hat hat2 hb2 hR
  go_wp2_with fail
  refine bodyPost_ret (v := ansP none) (by simp [results, Tryd.results13, go_sem, ansP, aggP, zeroP, r0, r1, r2, r3, r4, r5]) rfl ⟨rfl, ?_⟩
  exact (((((HA.out.bel.setCell HA.out.loR _).setCell HA.out.loR _).setCell HA.out.loR _).setCell HA.out.loR _).setCell HA.out.loR _).setCell HA.out.loR _

set_option maxRecDepth 100000 in
set_option maxHeartbeats 1000000 in
theorem parse_bad (s : ByteArray) (m : Int) (w : World) (hs : s.size ≤ 1000) (hm : w.cell? ⟨2, 0, none⟩ = some (.int .i64 m)) (hz : (s.toList == [45]) = false) (p : Nat → Bool) (ho : ofP (pieces s) zeroP = some p) (hq : ((textP p).toList == s.toList) = false) :
    Calls Tryd.prog 13 #[.string s] w (RV (ansP none) w) := by
  obtain ⟨a, b, c, d, e, f, hab, hte⟩ : ∃ a b c d e f : Bool, aggP p = .agg #[.bool a, .bool b, .bool c, .bool d, .bool e, .bool f] ∧ textP p = text a b c d e f := ⟨p 0, p 1, p 2, p 3, p 4, p 5, rfl, rfl⟩
  have HSP := Lib.hid (split_any s m (w.alloc (.cells #[.bool false, .bool false, .bool false, .bool false, .bool false, .bool false] 25)) hs (by rw [World.cell?_alloc_past _ _ _ (World.block_lt_of_cell? _ _ hm)]; exact hm))
  have HOF : Hid (∀ w v, RdS w v (pieces s) → Calls Tryd.prog 7 #[v] w (RV (.tuple #[.agg #[.bool a, .bool b, .bool c, .bool d, .bool e, .bool f], .bool true]) w)) := fun w v hr => by
    have := optOf_any w v (pieces s) hr (by have := pieces_le s; omega)
    rw [ho] at this
    exact this.mono fun _ _ h => rv_eq h (by show _ = Value.tuple #[aggP p, .bool true]; rw [hab])
  have hpa : ParAt w w.heap.size (w.alloc (.cells #[.bool false, .bool false, .bool false, .bool false, .bool false, .bool false] 25)) := by
    refine ⟨below_alloc (Below.refl _ _) _, Nat.le_refl _, by simp, fun j hj => ?_, fun j hj => ?_⟩
    · rw [World.cell?_alloc_at _ _ _ _ rfl]; exact bit_cells' false false false false false false j hj |>.trans (by congr 2; unfold bit; split <;> rfl)
    · rw [World.frozen?_alloc_at _ _ _ _ rfl]
  obtain ⟨R, hR⟩ : ∃ R, R = w.heap.size := ⟨_, rfl⟩
  have HPA := Lib.hid hpa
  obtain ⟨n, hn⟩ : ∃ n, n = (pieces s).length := ⟨_, rfl⟩
  rw [← hn] at HSP
  have HTE := Lib.hid hte
  have HAB := Lib.hid hab
  obtain ⟨tx, htx⟩ : ∃ t, t = text a b c d e f := ⟨_, rfl⟩
  rw [hte, ← htx] at hq
  have HTX := Lib.hid htx
  clear hm hs ho hpa hn hab hte htx
  go_enter Tryd.func13, Tryd.ntmps13
  go_wp2_with fail
  refine HSP.out.mono ?_
  rintro r w1 ⟨A, cp, rfl, hr, hb⟩
  have HR := Lib.hid hr
  have HB := Lib.hid hb
  clear hr hb
  go_wp2_with fail
  refine (HOF.out _ _ HR.out).mono ?_
  rintro r w2 ⟨rfl, hb2⟩
  have hat := (HPA.out.below HB.out).below hb2
  have HAT := Lib.hid hat
  clear hb2 hat
  go_wp2_with fail
  refine (text_any a b c d e f _).mono ?_
  rintro r w3 ⟨rfl, hb3⟩
  rw [← HTX.out]
  have hat2 := (HAT.out.below (below_alloc (Below.refl _ _) (.cells #[.bool a, .bool b, .bool c, .bool d, .bool e, .bool f] 25))).below hb3
  have y : ∀ (j : Nat) (u : Value), (#[.bool a, .bool b, .bool c, .bool d, .bool e, .bool f] : Array Value)[j]? = some u → w3.cell? ⟨w2.heap.size, j, none⟩ = some u := fun j u hu => by
    rw [hb3.cell (by simp), World.cell?_alloc_at _ _ _ _ rfl]; exact hu
  have y0 := y 0 _ rfl
  have y1 := y 1 _ rfl
  have y2 := y 2 _ rfl
  have y3 := y 3 _ rfl
  have y4 := y 4 _ rfl
  have y5 := y 5 _ rfl
  rw [← hR] at hat2 ⊢
  have r0 := hat2.cr 0 (by omega)
  have r1 := hat2.cr 1 (by omega)
  have r2 := hat2.cr 2 (by omega)
  have r3 := hat2.cr 3 (by omega)
  have r4 := hat2.cr 4 (by omega)
  have r5 := hat2.cr 5 (by omega)
  have q0 := hat2.fr 0 (by omega)
  have q1 := hat2.fr 1 (by omega)
  have q2 := hat2.fr 2 (by omega)
  have q3 := hat2.fr 3 (by omega)
  have q4 := hat2.fr 4 (by omega)
  have q5 := hat2.fr 5 (by omega)
  have HA := Lib.hid hat2
  clear y hat2 hb3 hR
  go_wp2_with fail
  refine bodyPost_ret (v := ansP none) (by simp [results, Tryd.results13, go_sem, ansP, aggP, zeroP, r0, r1, r2, r3, r4, r5]) rfl ⟨rfl, ?_⟩
  exact (((((HA.out.bel.setCell HA.out.loR _).setCell HA.out.loR _).setCell HA.out.loR _).setCell HA.out.loR _).setCell HA.out.loR _).setCell HA.out.loR _

set_option maxRecDepth 100000 in
set_option maxHeartbeats 1000000 in
theorem parse_good (s : ByteArray) (m : Int) (w : World) (hs : s.size ≤ 1000) (hm : w.cell? ⟨2, 0, none⟩ = some (.int .i64 m)) (hz : (s.toList == [45]) = false) (p : Nat → Bool) (ho : ofP (pieces s) zeroP = some p) (hq : ((textP p).toList == s.toList) = true) :
    Calls Tryd.prog 13 #[.string s] w (RV (ansP (some p)) w) := by
  obtain ⟨a, b, c, d, e, f, hab, hte⟩ : ∃ a b c d e f : Bool, aggP p = .agg #[.bool a, .bool b, .bool c, .bool d, .bool e, .bool f] ∧ textP p = text a b c d e f := ⟨p 0, p 1, p 2, p 3, p 4, p 5, rfl, rfl⟩
  have HSP := Lib.hid (split_any s m (w.alloc (.cells #[.bool false, .bool false, .bool false, .bool false, .bool false, .bool false] 25)) hs (by rw [World.cell?_alloc_past _ _ _ (World.block_lt_of_cell? _ _ hm)]; exact hm))
  have HOF : Hid (∀ w v, RdS w v (pieces s) → Calls Tryd.prog 7 #[v] w (RV (.tuple #[.agg #[.bool a, .bool b, .bool c, .bool d, .bool e, .bool f], .bool true]) w)) := fun w v hr => by
    have := optOf_any w v (pieces s) hr (by have := pieces_le s; omega)
    rw [ho] at this
    exact this.mono fun _ _ h => rv_eq h (by show _ = Value.tuple #[aggP p, .bool true]; rw [hab])
  have hpa : ParAt w w.heap.size (w.alloc (.cells #[.bool false, .bool false, .bool false, .bool false, .bool false, .bool false] 25)) := by
    refine ⟨below_alloc (Below.refl _ _) _, Nat.le_refl _, by simp, fun j hj => ?_, fun j hj => ?_⟩
    · rw [World.cell?_alloc_at _ _ _ _ rfl]; exact bit_cells' false false false false false false j hj |>.trans (by congr 2; unfold bit; split <;> rfl)
    · rw [World.frozen?_alloc_at _ _ _ _ rfl]
  obtain ⟨R, hR⟩ : ∃ R, R = w.heap.size := ⟨_, rfl⟩
  have HPA := Lib.hid hpa
  obtain ⟨n, hn⟩ : ∃ n, n = (pieces s).length := ⟨_, rfl⟩
  rw [← hn] at HSP
  have HTE := Lib.hid hte
  have HAB := Lib.hid hab
  obtain ⟨tx, htx⟩ : ∃ t, t = text a b c d e f := ⟨_, rfl⟩
  rw [hte, ← htx] at hq
  have HTX := Lib.hid htx
  clear hm hs ho hpa hn hab hte htx
  go_enter Tryd.func13, Tryd.ntmps13
  go_wp2_with fail
  refine HSP.out.mono ?_
  rintro r w1 ⟨A, cp, rfl, hr, hb⟩
  have HR := Lib.hid hr
  have HB := Lib.hid hb
  clear hr hb
  go_wp2_with fail
  refine (HOF.out _ _ HR.out).mono ?_
  rintro r w2 ⟨rfl, hb2⟩
  have hat := (HPA.out.below HB.out).below hb2
  have HAT := Lib.hid hat
  clear hb2 hat
  go_wp2_with fail
  refine (text_any a b c d e f _).mono ?_
  rintro r w3 ⟨rfl, hb3⟩
  rw [← HTX.out]
  have hat2 := (HAT.out.below (below_alloc (Below.refl _ _) (.cells #[.bool a, .bool b, .bool c, .bool d, .bool e, .bool f] 25))).below hb3
  have y : ∀ (j : Nat) (u : Value), (#[.bool a, .bool b, .bool c, .bool d, .bool e, .bool f] : Array Value)[j]? = some u → w3.cell? ⟨w2.heap.size, j, none⟩ = some u := fun j u hu => by
    rw [hb3.cell (by simp), World.cell?_alloc_at _ _ _ _ rfl]; exact hu
  have y0 := y 0 _ rfl
  have y1 := y 1 _ rfl
  have y2 := y 2 _ rfl
  have y3 := y 3 _ rfl
  have y4 := y 4 _ rfl
  have y5 := y 5 _ rfl
  rw [← hR] at hat2 ⊢
  have r0 := hat2.cr 0 (by omega)
  have r1 := hat2.cr 1 (by omega)
  have r2 := hat2.cr 2 (by omega)
  have r3 := hat2.cr 3 (by omega)
  have r4 := hat2.cr 4 (by omega)
  have r5 := hat2.cr 5 (by omega)
  have q0 := hat2.fr 0 (by omega)
  have q1 := hat2.fr 1 (by omega)
  have q2 := hat2.fr 2 (by omega)
  have q3 := hat2.fr 3 (by omega)
  have q4 := hat2.fr 4 (by omega)
  have q5 := hat2.fr 5 (by omega)
  have HA := Lib.hid hat2
  clear y hat2 hb3 hR
  go_wp2_with fail
  refine bodyPost_ret (v := .tuple #[.agg #[.bool a, .bool b, .bool c, .bool d, .bool e, .bool f], .bool true]) (by simp [results, Tryd.results13, go_sem, ansP, aggP, zeroP, r0, r1, r2, r3, r4, r5]) rfl (rv_eq ⟨rfl, ?_⟩ (by show Value.tuple #[aggP p, .bool true] = _; rw [HAB.out]))
  exact (((((HA.out.bel.setCell HA.out.loR _).setCell HA.out.loR _).setCell HA.out.loR _).setCell HA.out.loR _).setCell HA.out.loR _).setCell HA.out.loR _

theorem parse_any (s : ByteArray) (m : Int) (w : World) (hs : s.size ≤ 1000) (hm : w.cell? ⟨2, 0, none⟩ = some (.int .i64 m)) : Calls Tryd.prog 13 #[.string s] w (RV (ansP (parseP s)) w) := by
  unfold parseP
  cases hz : (s.toList == [45]) with
  | true => exact parse_dash s w hz
  | false =>
    cases ho : ofP (pieces s) zeroP with
    | none => exact parse_none s m w hs hm hz ho
    | some p =>
      cases hq : ((textP p).toList == s.toList) with
      | true => simp only [hq]; exact parse_good s m w hs hm hz p ho hq
      | false => simp only [hq]; exact parse_bad s m w hs hm hz p ho hq

end Go.Proofs.YtagopeefobefnaaDoor
