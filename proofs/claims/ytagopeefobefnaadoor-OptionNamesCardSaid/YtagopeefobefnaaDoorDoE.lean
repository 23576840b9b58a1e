/- option.Of: the options with some names, or none. -/
import Derived.Test.YtagopeefobefnaaDoorDoD
namespace Go.Proofs.YtagopeefobefnaaDoor
open Go.RowKit
set_option linter.unusedSimpArgs false
set_option linter.unusedVariables false

def zeroP : Nat → Bool := fun _ => false
def setP (p : Nat → Bool) (i : Nat) : Nat → Bool := fun j => if j = i then true else p j
/-- One name more. -/
def stepP (p : Nat → Bool) (s : ByteArray) : Option (Nat → Bool) := if idxI s < 0 then none else if p (idxI s).toNat = true then none else some (setP p (idxI s).toNat)
/-- The options with some names. -/
def ofP : List ByteArray → (Nat → Bool) → Option (Nat → Bool)
  | [], p => some p
  | s :: r, p => (stepP p s).bind (ofP r)
def aggP (p : Nat → Bool) : Value := .agg #[.bool (p 0), .bool (p 1), .bool (p 2), .bool (p 3), .bool (p 4), .bool (p 5)]
def ansP (o : Option (Nat → Bool)) : Value := .tuple #[aggP (o.getD zeroP), .bool o.isSome]
theorem step_no {p : Nat → Bool} {s : ByteArray} (h : idxI s = -1) : stepP p s = none := by unfold stepP; rw [if_pos (by omega)]
theorem step_dup {p : Nat → Bool} {s : ByteArray} {k : Nat} (h : idxI s = k) (hp : p k = true) : stepP p s = none := by
  unfold stepP
  rw [if_neg (by omega), if_pos (by rw [h]; simpa using hp)]
theorem step_new {p : Nat → Bool} {s : ByteArray} {k : Nat} (h : idxI s = k) (hp : p k = false) : stepP p s = some (setP p k) := by
  unfold stepP
  rw [if_neg (by omega), if_neg (by rw [h]; simp [hp]), h]; rfl
theorem ofP_no {xs : List ByteArray} {p : Nat → Bool} {k : Nat} {s : ByteArray} (hk : xs[k]? = some s) (h : stepP p s = none) : ofP (xs.drop k) p = none := by
  obtain ⟨hl, rfl⟩ := List.getElem?_eq_some_iff.1 hk
  rw [List.drop_eq_getElem_cons hl]; unfold ofP; rw [h]; rfl
theorem ofP_new {xs : List ByteArray} {p q : Nat → Bool} {k : Nat} {s : ByteArray} (hk : xs[k]? = some s) (h : stepP p s = some q) : ofP (xs.drop k) p = ofP (xs.drop (k + 1)) q := by
  obtain ⟨hl, rfl⟩ := List.getElem?_eq_some_iff.1 hk
  rw [List.drop_eq_getElem_cons hl]
  conv => lhs; unfold ofP
  rw [h]; rfl
theorem ofP_end {xs : List ByteArray} {p : Nat → Bool} {k : Nat} (hk : xs.length ≤ k) : ofP (xs.drop k) p = some p := by
  rw [List.drop_of_length_le hk]; rfl

/-- A value that reads as a list of strings. -/
def RdS (w : World) (v : Value) (xs : List ByteArray) : Prop :=
  ∃ A c, v = .slice A xs.length c ∧ xs.length ≤ c ∧ (0 < xs.length → ∃ g o, A = some ⟨g, o, none⟩ ∧ g < w.heap.size ∧ ∀ j x, xs[j]? = some x → w.cell? ⟨g, o + j, none⟩ = some (.string x))
theorem RdS.below {w w1 : World} {v : Value} {xs : List ByteArray} (h : RdS w v xs) (hb : Below w.heap.size w w1) : RdS w1 v xs := by
  obtain ⟨A, c, h2, h3, h4⟩ := h
  refine ⟨A, c, h2, h3, fun hp => ?_⟩
  obtain ⟨g, o, e, hg, hc⟩ := h4 hp
  exact ⟨g, o, e, Nat.lt_of_lt_of_le hg hb.size, fun j x hj => by rw [hb.cell hg]; exact hc j x hj⟩

/-- The record at X, the fields at G, the result's block R. -/
structure OfAt (w : World) (R X G : Nat) (p : Nat → Bool) (wr : World) : Prop where
  bel : Below w.heap.size w wr
  loR : w.heap.size ≤ R
  loX : w.heap.size ≤ X
  hiR : R < wr.heap.size
  hiX : X < wr.heap.size
  ne : R ≠ X
  neG : G ≠ X
  fl : Flds G wr
  cx : ∀ j, j < 6 → wr.cell? ⟨X, j, none⟩ = some (.bool (p j))
  fx : ∀ j, j < 6 → wr.frozen? ⟨X, j, none⟩ = false
  cr : ∀ j, j < 6 → wr.cell? ⟨R, j, none⟩ = some (.bool false)
  fr : ∀ j, j < 6 → wr.frozen? ⟨R, j, none⟩ = false
theorem OfAt.below {w : World} {R X G : Nat} {p : Nat → Bool} {wr w1 : World} (h : OfAt w R X G p wr) (hb : Below wr.heap.size wr w1) : OfAt w R X G p w1 where
  bel := below_then' h.bel hb
  loR := h.loR
  loX := h.loX
  hiR := Nat.lt_of_lt_of_le h.hiR hb.size
  hiX := Nat.lt_of_lt_of_le h.hiX hb.size
  ne := h.ne
  neG := h.neG
  fl := h.fl.below hb
  cx := fun j hj => by rw [hb.cell h.hiX]; exact h.cx j hj
  fx := fun j hj => by rw [hb.frozen h.hiX]; exact h.fx j hj
  cr := fun j hj => by rw [hb.cell h.hiR]; exact h.cr j hj
  fr := fun j hj => by rw [hb.frozen h.hiR]; exact h.fr j hj
theorem OfAt.set {w : World} {R X G : Nat} {p : Nat → Bool} {wr : World} (h : OfAt w R X G p wr) {k : Nat} (hk : k < 6) : OfAt w R X G (setP p k) (wr.setCell ⟨X, k, none⟩ (.bool true)) where
  bel := h.bel.setCell h.loX _
  loR := h.loR
  loX := h.loX
  hiR := by simpa using h.hiR
  hiX := by simpa using h.hiX
  ne := h.ne
  neG := h.neG
  fl := ⟨by simpa using h.fl.1, fun k' hk' => by
    rw [World.cell?_setCell_other _ _ _ _ (addr_ne (.inl (Ne.symm h.neG))), World.cell?_setCell_other _ _ _ _ (addr_ne (.inl (Ne.symm h.neG)))]; exact h.fl.2 k' hk'⟩
  cx := fun j hj => by
    by_cases e : j = k
    · subst e; rw [World.cell?_setCell_same _ _ _ (h.cx j hj)]; simp [setP]
    · rw [World.cell?_setCell_other _ _ _ _ (addr_ne (.inr (Ne.symm e))), h.cx j hj]; simp [setP, e]
  fx := fun j hj => by rw [World.frozen?_setCell]; exact h.fx j hj
  cr := fun j hj => by rw [World.cell?_setCell_other _ _ _ _ (addr_ne (.inl (Ne.symm h.ne)))]; exact h.cr j hj
  fr := fun j hj => by rw [World.frozen?_setCell]; exact h.fr j hj

set_option maxRecDepth 100000 in
set_option maxHeartbeats 4000000 in
theorem optOf_any (w : World) (v : Value) (xs : List ByteArray) (hr : RdS w v xs) (hn : xs.length ≤ 140737488355328) : Calls Tryd.prog 7 #[v] w (RV (ansP (ofP xs zeroP)) w) := by
  have hmf : ∀ (fn : Fn) (first cap : Array Value) (w : World), (Instr.makeFunc fn first cap).run Tryd.prog w = .ok (.func fn first cap) w := fun _ _ _ _ => rfl
  have HR := Lib.hid hr
  obtain ⟨A, c, rfl, hc, -⟩ := hr
  obtain ⟨n, hn'⟩ : ∃ n, n = xs.length := ⟨_, rfl⟩
  rw [← hn'] at HR hn hc ⊢
  have HN := Lib.hid hn'
  clear hn'
  go_enter Tryd.func7, Tryd.ntmps7
  go_wp2_with fail
  refine (fields_any _).mono ?_
  rintro r w1 ⟨rfl, hb⟩
  have hb0 : Below w.heap.size w w1 := below_then' (below_alloc (below_alloc (Below.refl _ _) _) _) hb
  have hs1 : w.heap.size + 2 ≤ w1.heap.size := by have := hb.size; simp at this; omega
  obtain ⟨C, hC⟩ : ∃ C : Array Value, C = #[.string nm0, .func (.func 29) #[] #[], .string nm1, .func (.func 30) #[] #[], .string nm2, .func (.func 31) #[] #[], .string nm3, .func (.func 32) #[] #[], .string nm4, .func (.func 33) #[] #[], .string nm5, .func (.func 34) #[] #[]] := ⟨_, rfl⟩
  have hat : OfAt w w.heap.size (w.heap.size + 1) w1.heap.size zeroP (w1.alloc (.cells C 43)) := by
    have q : ∀ (B j : Nat), B < w1.heap.size → (w1.alloc (.cells C 43)).cell? ⟨B, j, none⟩ = w1.cell? ⟨B, j, none⟩ := fun B j hB => World.cell?_alloc_past _ _ _ hB
    have q' : ∀ (B j : Nat), B < w1.heap.size → (w1.alloc (.cells C 43)).frozen? ⟨B, j, none⟩ = w1.frozen? ⟨B, j, none⟩ := fun B j hB => World.frozen?_alloc_past _ _ _ hB
    refine ⟨below_alloc hb0 _, Nat.le_refl _, by omega, by simp; omega, by simp; omega, by omega, by omega, ⟨by simp, fun k hk => ?_⟩, fun j hj => ?_, fun j hj => ?_, fun j hj => ?_, fun j hj => ?_⟩
    · rw [World.cell?_alloc_at _ _ _ _ rfl, World.cell?_alloc_at _ _ _ _ rfl, hC]
      match k, hk with
      | 0, _ => exact ⟨rfl, rfl⟩
      | 1, _ => exact ⟨rfl, rfl⟩
      | 2, _ => exact ⟨rfl, rfl⟩
      | 3, _ => exact ⟨rfl, rfl⟩
      | 4, _ => exact ⟨rfl, rfl⟩
      | 5, _ => exact ⟨rfl, rfl⟩
    · rw [q _ _ (by omega), hb.cell (by simp), World.cell?_alloc_at _ _ _ _ (by simp)]; exact bit_cells' false false false false false false j hj |>.trans (by congr 2; unfold bit zeroP; split <;> rfl)
    · rw [q' _ _ (by omega), hb.frozen (by simp), World.frozen?_alloc_at _ _ _ _ (by simp)]
    · rw [q _ _ (by omega), hb.cell (by simp; omega), World.cell?_alloc_past _ _ _ (by simp), World.cell?_alloc_at _ _ _ _ rfl]; exact bit_cells' false false false false false false j hj |>.trans (by congr 2; unfold bit; split <;> rfl)
    · rw [q' _ _ (by omega), hb.frozen (by simp; omega), World.frozen?_alloc_past _ _ _ (by simp), World.frozen?_alloc_at _ _ _ _ rfl]
  obtain ⟨G, hG⟩ : ∃ G, G = w1.heap.size := ⟨_, rfl⟩
  obtain ⟨X, hX⟩ : ∃ X, X = w.heap.size + 1 := ⟨_, rfl⟩
  obtain ⟨R, hRR⟩ : ∃ R, R = w.heap.size := ⟨_, rfl⟩
  rw [← hG, ← hX, ← hRR] at hat
  rw [hC] at hat
  have HAT := Lib.hid hat
  have HG := Lib.hid hG
  have HX := Lib.hid hX
  have HRR := Lib.hid hRR
  clear hat hb hb0 hs1 hC
  go_wp2_with fail
  rw [← hG, ← hX, ← hRR]
  clear hG hX hRR
  go_loopw [14] (fun i wr => ∃ (k : Nat) (p : Nat → Bool), k ≤ n ∧ i = .int .i64 k ∧ ofP xs zeroP = ofP (xs.drop k) p ∧ OfAt w R X G p wr) (fun i _ => n - (intOf i).toNat)
  case atStart => exact ⟨0, zeroP, by omega, rfl, rfl, HAT.out⟩
  case round =>
    obtain ⟨k, p, hk, rfl, he, hat⟩ := hrel
    have HE := Lib.hid he
    have HA := Lib.hid hat
    clear he
    by_cases hlt : k < n
    · have hkn : (k : Int) < n := by omega
      obtain ⟨s, hs⟩ : ∃ s, xs[k]? = some s := ⟨xs[k]'(by rw [← HN.out]; exact hlt), List.getElem?_eq_getElem _⟩
      obtain ⟨A', c', e1, e2, e3⟩ := HR.out.below hat.bel
      injection e1 with f1 f2 f3
      subst f1
      obtain ⟨g, o, hAg, hg, hcell⟩ := e3 (by rw [← HN.out]; omega)
      subst hAg
      have hsc := hcell k s hs
      have hat2 := hat.below (below_alloc (Below.refl _ _) (.cells #[.string s] 9))
      have CI := Lib.hid (index_any G wr.heap.size s (wr.alloc (.cells #[.string s] 9)) hat2.fl (by simp) (by rw [World.cell?_alloc_at _ _ _ _ rfl]; rfl))
      have HA2 := Lib.hid hat2
      have HS := Lib.hid hs
      clear hat hat2 e2 e3 hcell hs f2 f3 hg
      rcases idx_cases s with ⟨i, hi6, hidx, -, -⟩ | ⟨hidx, -⟩
      · rw [hidx] at CI
        have HI := Lib.hid hidx
        clear hidx
        match i, hi6 with
        | 0, _ =>
          cases hp : p 0 with
          | true =>
            have HO := Lib.hid (HE.out.trans (ofP_no HS.out (step_dup HI.out hp)))
            go_wp2_with fail
            refine CI.out.mono ?_
            rintro r w2 ⟨rfl, hb2⟩
            have hat3 := HA2.out.below hb2
            have hfl : w2.cell? ⟨G, 1, none⟩ = some (.func (.func 29) #[] #[]) := (hat3.fl.2 0 (by omega)).2
            have hx : w2.cell? ⟨X, 0, none⟩ = some (.bool true) := by rw [hat3.cx 0 (by omega), hp]
            have r0 := hat3.cr 0 (by omega)
            have r1 := hat3.cr 1 (by omega)
            have r2 := hat3.cr 2 (by omega)
            have r3 := hat3.cr 3 (by omega)
            have r4 := hat3.cr 4 (by omega)
            have r5 := hat3.cr 5 (by omega)
            have q0 := hat3.fr 0 (by omega)
            have q1 := hat3.fr 1 (by omega)
            have q2 := hat3.fr 2 (by omega)
            have q3 := hat3.fr 3 (by omega)
            have q4 := hat3.fr 4 (by omega)
            have q5 := hat3.fr 5 (by omega)
            have HA3 := Lib.hid hat3
            clear hat3 hb2 hp
            go_wp2_with (go_at_call 29; refine (meth0 _ _).mono ?_; rintro r w' ⟨rfl, rfl⟩)
            refine bodyPost_ret (v := ansP none) (by simp [results, Tryd.results7, go_sem, ansP, aggP, zeroP, r0, r1, r2, r3, r4, r5]) rfl (rv_eq ⟨rfl, ?_⟩ (by rw [HO.out]))
            exact (((((HA3.out.bel.setCell HA3.out.loR _).setCell HA3.out.loR _).setCell HA3.out.loR _).setCell HA3.out.loR _).setCell HA3.out.loR _).setCell HA3.out.loR _
          | false =>
            have HO := Lib.hid (HE.out.trans (ofP_new HS.out (step_new HI.out hp)))
            go_wp2_with fail
            refine CI.out.mono ?_
            rintro r w2 ⟨rfl, hb2⟩
            have hat3 := HA2.out.below hb2
            have hfl : w2.cell? ⟨G, 1, none⟩ = some (.func (.func 29) #[] #[]) := (hat3.fl.2 0 (by omega)).2
            have hx : w2.cell? ⟨X, 0, none⟩ = some (.bool false) := by rw [hat3.cx 0 (by omega), hp]
            have hfx := hat3.fx 0 (by omega)
            have HA3 := Lib.hid hat3
            clear hat3 hb2 hp
            go_wp2_with (go_at_call 29; refine (meth0 _ _).mono ?_; rintro r w' ⟨rfl, rfl⟩)
            go_roundw
            case rel => exact ⟨k + 1, setP p 0, by omega, by go_num, HO.out, HA3.out.set (by omega)⟩
            case measure => simp [intOf]; omega
        | 1, _ =>
          cases hp : p 1 with
          | true =>
            have HO := Lib.hid (HE.out.trans (ofP_no HS.out (step_dup HI.out hp)))
            go_wp2_with fail
            refine CI.out.mono ?_
            rintro r w2 ⟨rfl, hb2⟩
            have hat3 := HA2.out.below hb2
            have hfl : w2.cell? ⟨G, 3, none⟩ = some (.func (.func 30) #[] #[]) := (hat3.fl.2 1 (by omega)).2
            have hx : w2.cell? ⟨X, 1, none⟩ = some (.bool true) := by rw [hat3.cx 1 (by omega), hp]
            have r0 := hat3.cr 0 (by omega)
            have r1 := hat3.cr 1 (by omega)
            have r2 := hat3.cr 2 (by omega)
            have r3 := hat3.cr 3 (by omega)
            have r4 := hat3.cr 4 (by omega)
            have r5 := hat3.cr 5 (by omega)
            have q0 := hat3.fr 0 (by omega)
            have q1 := hat3.fr 1 (by omega)
            have q2 := hat3.fr 2 (by omega)
            have q3 := hat3.fr 3 (by omega)
            have q4 := hat3.fr 4 (by omega)
            have q5 := hat3.fr 5 (by omega)
            have HA3 := Lib.hid hat3
            clear hat3 hb2 hp
            go_wp2_with (go_at_call 30; refine (meth1 _ _).mono ?_; rintro r w' ⟨rfl, rfl⟩)
            refine bodyPost_ret (v := ansP none) (by simp [results, Tryd.results7, go_sem, ansP, aggP, zeroP, r0, r1, r2, r3, r4, r5]) rfl (rv_eq ⟨rfl, ?_⟩ (by rw [HO.out]))
            exact (((((HA3.out.bel.setCell HA3.out.loR _).setCell HA3.out.loR _).setCell HA3.out.loR _).setCell HA3.out.loR _).setCell HA3.out.loR _).setCell HA3.out.loR _
          | false =>
            have HO := Lib.hid (HE.out.trans (ofP_new HS.out (step_new HI.out hp)))
            go_wp2_with fail
            refine CI.out.mono ?_
            rintro r w2 ⟨rfl, hb2⟩
            have hat3 := HA2.out.below hb2
            have hfl : w2.cell? ⟨G, 3, none⟩ = some (.func (.func 30) #[] #[]) := (hat3.fl.2 1 (by omega)).2
            have hx : w2.cell? ⟨X, 1, none⟩ = some (.bool false) := by rw [hat3.cx 1 (by omega), hp]
            have hfx := hat3.fx 1 (by omega)
            have HA3 := Lib.hid hat3
            clear hat3 hb2 hp
            go_wp2_with (go_at_call 30; refine (meth1 _ _).mono ?_; rintro r w' ⟨rfl, rfl⟩)
            go_roundw
            case rel => exact ⟨k + 1, setP p 1, by omega, by go_num, HO.out, HA3.out.set (by omega)⟩
            case measure => simp [intOf]; omega
        | 2, _ =>
          cases hp : p 2 with
          | true =>
            have HO := Lib.hid (HE.out.trans (ofP_no HS.out (step_dup HI.out hp)))
            go_wp2_with fail
            refine CI.out.mono ?_
            rintro r w2 ⟨rfl, hb2⟩
            have hat3 := HA2.out.below hb2
            have hfl : w2.cell? ⟨G, 5, none⟩ = some (.func (.func 31) #[] #[]) := (hat3.fl.2 2 (by omega)).2
            have hx : w2.cell? ⟨X, 2, none⟩ = some (.bool true) := by rw [hat3.cx 2 (by omega), hp]
            have r0 := hat3.cr 0 (by omega)
            have r1 := hat3.cr 1 (by omega)
            have r2 := hat3.cr 2 (by omega)
            have r3 := hat3.cr 3 (by omega)
            have r4 := hat3.cr 4 (by omega)
            have r5 := hat3.cr 5 (by omega)
            have q0 := hat3.fr 0 (by omega)
            have q1 := hat3.fr 1 (by omega)
            have q2 := hat3.fr 2 (by omega)
            have q3 := hat3.fr 3 (by omega)
            have q4 := hat3.fr 4 (by omega)
            have q5 := hat3.fr 5 (by omega)
            have HA3 := Lib.hid hat3
            clear hat3 hb2 hp
            go_wp2_with (go_at_call 31; refine (meth2 _ _).mono ?_; rintro r w' ⟨rfl, rfl⟩)
            refine bodyPost_ret (v := ansP none) (by simp [results, Tryd.results7, go_sem, ansP, aggP, zeroP, r0, r1, r2, r3, r4, r5]) rfl (rv_eq ⟨rfl, ?_⟩ (by rw [HO.out]))
            exact (((((HA3.out.bel.setCell HA3.out.loR _).setCell HA3.out.loR _).setCell HA3.out.loR _).setCell HA3.out.loR _).setCell HA3.out.loR _).setCell HA3.out.loR _
          | false =>
            have HO := Lib.hid (HE.out.trans (ofP_new HS.out (step_new HI.out hp)))
            go_wp2_with fail
            refine CI.out.mono ?_
            rintro r w2 ⟨rfl, hb2⟩
            have hat3 := HA2.out.below hb2
            have hfl : w2.cell? ⟨G, 5, none⟩ = some (.func (.func 31) #[] #[]) := (hat3.fl.2 2 (by omega)).2
            have hx : w2.cell? ⟨X, 2, none⟩ = some (.bool false) := by rw [hat3.cx 2 (by omega), hp]
            have hfx := hat3.fx 2 (by omega)
            have HA3 := Lib.hid hat3
            clear hat3 hb2 hp
            go_wp2_with (go_at_call 31; refine (meth2 _ _).mono ?_; rintro r w' ⟨rfl, rfl⟩)
            go_roundw
            case rel => exact ⟨k + 1, setP p 2, by omega, by go_num, HO.out, HA3.out.set (by omega)⟩
            case measure => simp [intOf]; omega
        | 3, _ =>
          cases hp : p 3 with
          | true =>
            have HO := Lib.hid (HE.out.trans (ofP_no HS.out (step_dup HI.out hp)))
            go_wp2_with fail
            refine CI.out.mono ?_
            rintro r w2 ⟨rfl, hb2⟩
            have hat3 := HA2.out.below hb2
            have hfl : w2.cell? ⟨G, 7, none⟩ = some (.func (.func 32) #[] #[]) := (hat3.fl.2 3 (by omega)).2
            have hx : w2.cell? ⟨X, 3, none⟩ = some (.bool true) := by rw [hat3.cx 3 (by omega), hp]
            have r0 := hat3.cr 0 (by omega)
            have r1 := hat3.cr 1 (by omega)
            have r2 := hat3.cr 2 (by omega)
            have r3 := hat3.cr 3 (by omega)
            have r4 := hat3.cr 4 (by omega)
            have r5 := hat3.cr 5 (by omega)
            have q0 := hat3.fr 0 (by omega)
            have q1 := hat3.fr 1 (by omega)
            have q2 := hat3.fr 2 (by omega)
            have q3 := hat3.fr 3 (by omega)
            have q4 := hat3.fr 4 (by omega)
            have q5 := hat3.fr 5 (by omega)
            have HA3 := Lib.hid hat3
            clear hat3 hb2 hp
            go_wp2_with (go_at_call 32; refine (meth3 _ _).mono ?_; rintro r w' ⟨rfl, rfl⟩)
            refine bodyPost_ret (v := ansP none) (by simp [results, Tryd.results7, go_sem, ansP, aggP, zeroP, r0, r1, r2, r3, r4, r5]) rfl (rv_eq ⟨rfl, ?_⟩ (by rw [HO.out]))
            exact (((((HA3.out.bel.setCell HA3.out.loR _).setCell HA3.out.loR _).setCell HA3.out.loR _).setCell HA3.out.loR _).setCell HA3.out.loR _).setCell HA3.out.loR _
          | false =>
            have HO := Lib.hid (HE.out.trans (ofP_new HS.out (step_new HI.out hp)))
            go_wp2_with fail
            refine CI.out.mono ?_
            rintro r w2 ⟨rfl, hb2⟩
            have hat3 := HA2.out.below hb2
            have hfl : w2.cell? ⟨G, 7, none⟩ = some (.func (.func 32) #[] #[]) := (hat3.fl.2 3 (by omega)).2
            have hx : w2.cell? ⟨X, 3, none⟩ = some (.bool false) := by rw [hat3.cx 3 (by omega), hp]
            have hfx := hat3.fx 3 (by omega)
            have HA3 := Lib.hid hat3
            clear hat3 hb2 hp
            go_wp2_with (go_at_call 32; refine (meth3 _ _).mono ?_; rintro r w' ⟨rfl, rfl⟩)
            go_roundw
            case rel => exact ⟨k + 1, setP p 3, by omega, by go_num, HO.out, HA3.out.set (by omega)⟩
            case measure => simp [intOf]; omega
        | 4, _ =>
          cases hp : p 4 with
          | true =>
            have HO := Lib.hid (HE.out.trans (ofP_no HS.out (step_dup HI.out hp)))
            go_wp2_with fail
            refine CI.out.mono ?_
            rintro r w2 ⟨rfl, hb2⟩
            have hat3 := HA2.out.below hb2
            have hfl : w2.cell? ⟨G, 9, none⟩ = some (.func (.func 33) #[] #[]) := (hat3.fl.2 4 (by omega)).2
            have hx : w2.cell? ⟨X, 4, none⟩ = some (.bool true) := by rw [hat3.cx 4 (by omega), hp]
            have r0 := hat3.cr 0 (by omega)
            have r1 := hat3.cr 1 (by omega)
            have r2 := hat3.cr 2 (by omega)
            have r3 := hat3.cr 3 (by omega)
            have r4 := hat3.cr 4 (by omega)
            have r5 := hat3.cr 5 (by omega)
            have q0 := hat3.fr 0 (by omega)
            have q1 := hat3.fr 1 (by omega)
            have q2 := hat3.fr 2 (by omega)
            have q3 := hat3.fr 3 (by omega)
            have q4 := hat3.fr 4 (by omega)
            have q5 := hat3.fr 5 (by omega)
            have HA3 := Lib.hid hat3
            clear hat3 hb2 hp
            go_wp2_with (go_at_call 33; refine (meth4 _ _).mono ?_; rintro r w' ⟨rfl, rfl⟩)
            refine bodyPost_ret (v := ansP none) (by simp [results, Tryd.results7, go_sem, ansP, aggP, zeroP, r0, r1, r2, r3, r4, r5]) rfl (rv_eq ⟨rfl, ?_⟩ (by rw [HO.out]))
            exact (((((HA3.out.bel.setCell HA3.out.loR _).setCell HA3.out.loR _).setCell HA3.out.loR _).setCell HA3.out.loR _).setCell HA3.out.loR _).setCell HA3.out.loR _
          | false =>
            have HO := Lib.hid (HE.out.trans (ofP_new HS.out (step_new HI.out hp)))
            go_wp2_with fail
            refine CI.out.mono ?_
            rintro r w2 ⟨rfl, hb2⟩
            have hat3 := HA2.out.below hb2
            have hfl : w2.cell? ⟨G, 9, none⟩ = some (.func (.func 33) #[] #[]) := (hat3.fl.2 4 (by omega)).2
            have hx : w2.cell? ⟨X, 4, none⟩ = some (.bool false) := by rw [hat3.cx 4 (by omega), hp]
            have hfx := hat3.fx 4 (by omega)
            have HA3 := Lib.hid hat3
            clear hat3 hb2 hp
            go_wp2_with (go_at_call 33; refine (meth4 _ _).mono ?_; rintro r w' ⟨rfl, rfl⟩)
            go_roundw
            case rel => exact ⟨k + 1, setP p 4, by omega, by go_num, HO.out, HA3.out.set (by omega)⟩
            case measure => simp [intOf]; omega
        | 5, _ =>
          cases hp : p 5 with
          | true =>
            have HO := Lib.hid (HE.out.trans (ofP_no HS.out (step_dup HI.out hp)))
            go_wp2_with fail
            refine CI.out.mono ?_
            rintro r w2 ⟨rfl, hb2⟩
            have hat3 := HA2.out.below hb2
            have hfl : w2.cell? ⟨G, 11, none⟩ = some (.func (.func 34) #[] #[]) := (hat3.fl.2 5 (by omega)).2
            have hx : w2.cell? ⟨X, 5, none⟩ = some (.bool true) := by rw [hat3.cx 5 (by omega), hp]
            have r0 := hat3.cr 0 (by omega)
            have r1 := hat3.cr 1 (by omega)
            have r2 := hat3.cr 2 (by omega)
            have r3 := hat3.cr 3 (by omega)
            have r4 := hat3.cr 4 (by omega)
            have r5 := hat3.cr 5 (by omega)
            have q0 := hat3.fr 0 (by omega)
            have q1 := hat3.fr 1 (by omega)
            have q2 := hat3.fr 2 (by omega)
            have q3 := hat3.fr 3 (by omega)
            have q4 := hat3.fr 4 (by omega)
            have q5 := hat3.fr 5 (by omega)
            have HA3 := Lib.hid hat3
            clear hat3 hb2 hp
            go_wp2_with (go_at_call 34; refine (meth5 _ _).mono ?_; rintro r w' ⟨rfl, rfl⟩)
            refine bodyPost_ret (v := ansP none) (by simp [results, Tryd.results7, go_sem, ansP, aggP, zeroP, r0, r1, r2, r3, r4, r5]) rfl (rv_eq ⟨rfl, ?_⟩ (by rw [HO.out]))
            exact (((((HA3.out.bel.setCell HA3.out.loR _).setCell HA3.out.loR _).setCell HA3.out.loR _).setCell HA3.out.loR _).setCell HA3.out.loR _).setCell HA3.out.loR _
          | false =>
            have HO := Lib.hid (HE.out.trans (ofP_new HS.out (step_new HI.out hp)))
            go_wp2_with fail
            refine CI.out.mono ?_
            rintro r w2 ⟨rfl, hb2⟩
            have hat3 := HA2.out.below hb2
            have hfl : w2.cell? ⟨G, 11, none⟩ = some (.func (.func 34) #[] #[]) := (hat3.fl.2 5 (by omega)).2
            have hx : w2.cell? ⟨X, 5, none⟩ = some (.bool false) := by rw [hat3.cx 5 (by omega), hp]
            have hfx := hat3.fx 5 (by omega)
            have HA3 := Lib.hid hat3
            clear hat3 hb2 hp
            go_wp2_with (go_at_call 34; refine (meth5 _ _).mono ?_; rintro r w' ⟨rfl, rfl⟩)
            go_roundw
            case rel => exact ⟨k + 1, setP p 5, by omega, by go_num, HO.out, HA3.out.set (by omega)⟩
            case measure => simp [intOf]; omega
      · rw [hidx] at CI
        have HO := Lib.hid (HE.out.trans (ofP_no HS.out (step_no hidx)))
        clear hidx
        go_wp2_with fail
        refine CI.out.mono ?_
        rintro r w2 ⟨rfl, hb2⟩
        have hat3 := HA2.out.below hb2
        have r0 := hat3.cr 0 (by omega)
        have r1 := hat3.cr 1 (by omega)
        have r2 := hat3.cr 2 (by omega)
        have r3 := hat3.cr 3 (by omega)
        have r4 := hat3.cr 4 (by omega)
        have r5 := hat3.cr 5 (by omega)
        have q0 := hat3.fr 0 (by omega)
        have q1 := hat3.fr 1 (by omega)
        have q2 := hat3.fr 2 (by omega)
        have q3 := hat3.fr 3 (by omega)
        have q4 := hat3.fr 4 (by omega)
        have q5 := hat3.fr 5 (by omega)
        have HA3 := Lib.hid hat3
        clear hat3 hb2
        go_wp2_with fail
        refine bodyPost_ret (v := ansP none) (by simp [results, Tryd.results7, go_sem, ansP, aggP, zeroP, r0, r1, r2, r3, r4, r5]) rfl (rv_eq ⟨rfl, ?_⟩ (by rw [HO.out]))
        exact (((((HA3.out.bel.setCell HA3.out.loR _).setCell HA3.out.loR _).setCell HA3.out.loR _).setCell HA3.out.loR _).setCell HA3.out.loR _).setCell HA3.out.loR _
    · obtain rfl : k = n := by omega
      have HO := Lib.hid (HE.out.trans (ofP_end (by rw [← HN.out]; exact Nat.le_refl _)))
      have hat3 := hat
      have r0 := hat3.cr 0 (by omega)
      have r1 := hat3.cr 1 (by omega)
      have r2 := hat3.cr 2 (by omega)
      have r3 := hat3.cr 3 (by omega)
      have r4 := hat3.cr 4 (by omega)
      have r5 := hat3.cr 5 (by omega)
      have q0 := hat3.fr 0 (by omega)
      have q1 := hat3.fr 1 (by omega)
      have q2 := hat3.fr 2 (by omega)
      have q3 := hat3.fr 3 (by omega)
      have q4 := hat3.fr 4 (by omega)
      have q5 := hat3.fr 5 (by omega)
      have x0 := hat3.cx 0 (by omega)
      have x1 := hat3.cx 1 (by omega)
      have x2 := hat3.cx 2 (by omega)
      have x3 := hat3.cx 3 (by omega)
      have x4 := hat3.cx 4 (by omega)
      have x5 := hat3.cx 5 (by omega)
      have HA3 := Lib.hid hat3
      clear hat3 hat
      go_wp2_with fail
      refine bodyPost_ret (v := ansP (some p)) (by simp [results, Tryd.results7, go_sem, ansP, aggP, r0, r1, r2, r3, r4, r5]) rfl (rv_eq ⟨rfl, ?_⟩ (by rw [HO.out]))
      exact (((((HA3.out.bel.setCell HA3.out.loR _).setCell HA3.out.loR _).setCell HA3.out.loR _).setCell HA3.out.loR _).setCell HA3.out.loR _).setCell HA3.out.loR _

end Go.Proofs.YtagopeefobefnaaDoor
