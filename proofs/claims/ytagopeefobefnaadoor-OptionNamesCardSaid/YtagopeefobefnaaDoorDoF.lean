/- The reference's Of: the options with some names, or none. -/
import Derived.Test.YtagopeefobefnaaDoorDoE
import Derived.Deep.RegionWith
namespace Go.Proofs.YtagopeefobefnaaDoor
open Go.RowKit
set_option linter.unusedSimpArgs false
set_option linter.unusedVariables false

theorem hit_inj {s : ByteArray} {j k : Nat} (hj : j < 6) (hk : k < 6) (h1 : hit s j = true) (h2 : hit s k = true) : j = k := by
  have e1 : (nmK j).toList = s.toList := by simpa [hit] using h1
  have e2 : (nmK k).toList = s.toList := by simpa [hit] using h2
  have e : (nmK j).toList = (nmK k).toList := e1.trans e2.symm
  have D : (List.range 6).all (fun a => (List.range 6).all fun b => a == b || !((nmK a).toList == (nmK b).toList)) = true := by kernel_rfl
  by_cases hne : j = k
  · exact hne
  · have := List.all_eq_true.1 (List.all_eq_true.1 D j (List.mem_range.2 hj)) k (List.mem_range.2 hk)
    rw [e] at this
    simp [hne] at this

def nmsV : Array Value := #[.string nm0, .string nm1, .string nm2, .string nm3, .string nm4, .string nm5]
theorem nms_at {k : Nat} (hk : k < 6) : nmsV[k]? = some (.string (nmK k)) := by
  match k, hk with
  | 0, _ => rfl
  | 1, _ => rfl
  | 2, _ => rfl
  | 3, _ => rfl
  | 4, _ => rfl
  | 5, _ => rfl
/-- What Names leaves: a row of its own. -/
def NamesP (w : World) (r : Ending) (w' : World) : Prop := r = .returned (.slice (some ⟨w.heap.size, 0, none⟩) 6 6) ∧ w' = w.alloc (.cells nmsV 9)
set_option maxRecDepth 100000 in
theorem names_any (w : World) : Calls Tryd.prog 21 #[] w (NamesP w) := by
  go_enter Tryd.func21, Tryd.ntmps21
  go_wp2
  go_ret
  exact ⟨rfl, rfl⟩

/-- The list at L, the result's block R. -/
structure RefAt (w : World) (R L : Nat) (p : Nat → Bool) (wr : World) : Prop where
  bel : Below w.heap.size w wr
  loR : w.heap.size ≤ R
  loL : w.heap.size ≤ L
  hiR : R < wr.heap.size
  hiL : L < wr.heap.size
  ne : R ≠ L
  cl : ∀ j, j < 6 → wr.cell? ⟨L, j, none⟩ = some (.bool (p j))
  fl : ∀ j, j < 6 → wr.frozen? ⟨L, j, none⟩ = false
  cr : ∀ j, j < 6 → wr.cell? ⟨R, j, none⟩ = some (.bool false)
  fr : ∀ j, j < 6 → wr.frozen? ⟨R, j, none⟩ = false
theorem RefAt.below {w : World} {R L : Nat} {p : Nat → Bool} {wr w1 : World} (h : RefAt w R L p wr) (hb : Below wr.heap.size wr w1) : RefAt w R L p w1 where
  bel := below_then' h.bel hb
  loR := h.loR
  loL := h.loL
  hiR := Nat.lt_of_lt_of_le h.hiR hb.size
  hiL := Nat.lt_of_lt_of_le h.hiL hb.size
  ne := h.ne
  cl := fun j hj => by rw [hb.cell h.hiL]; exact h.cl j hj
  fl := fun j hj => by rw [hb.frozen h.hiL]; exact h.fl j hj
  cr := fun j hj => by rw [hb.cell h.hiR]; exact h.cr j hj
  fr := fun j hj => by rw [hb.frozen h.hiR]; exact h.fr j hj
theorem RefAt.set {w : World} {R L : Nat} {p : Nat → Bool} {wr : World} (h : RefAt w R L p wr) {k : Nat} (hk : k < 6) : RefAt w R L (setP p k) (wr.setCell ⟨L, k, none⟩ (.bool true)) where
  bel := h.bel.setCell h.loL _
  loR := h.loR
  loL := h.loL
  hiR := by simpa using h.hiR
  hiL := by simpa using h.hiL
  ne := h.ne
  cl := fun j hj => by
    by_cases e : j = k
    · subst e; rw [World.cell?_setCell_same _ _ _ (h.cl j hj)]; simp [setP]
    · rw [World.cell?_setCell_other _ _ _ _ (addr_ne (.inr (Ne.symm e))), h.cl j hj]; simp [setP, e]
  fl := fun j hj => by rw [World.frozen?_setCell]; exact h.fl j hj
  cr := fun j hj => by rw [World.cell?_setCell_other _ _ _ _ (addr_ne (.inl (Ne.symm h.ne)))]; exact h.cr j hj
  fr := fun j hj => by rw [World.frozen?_setCell]; exact h.fr j hj

/-- Behind k rounds of the inner loop: has the name been found, and the list. -/
def innerF (p : Nat → Bool) (s : ByteArray) (k : Nat) : Bool := decide (0 ≤ idxI s) && decide (idxI s < k) && !p (idxI s).toNat
def innerP (p : Nat → Bool) (s : ByteArray) (k : Nat) : Nat → Bool := if innerF p s k = true then setP p (idxI s).toNat else p
theorem inner_0 (p : Nat → Bool) (s : ByteArray) : innerF p s 0 = false ∧ innerP p s 0 = p := by
  have : innerF p s 0 = false := by
    unfold innerF
    by_cases h : 0 ≤ idxI s
    · simp; omega
    · simp [h]
  exact ⟨this, by unfold innerP; rw [this]; simp⟩
theorem hit_idx {s : ByteArray} {k : Nat} (hk : k < 6) (h : hit s k = true) : idxI s = k := idx_at hk h fun j hj => by
  cases e : hit s j with
  | false => rfl
  | true => exact absurd (hit_inj (by omega) hk e h) (by omega)
theorem inner_no {p : Nat → Bool} {s : ByteArray} {k : Nat} (hk : k < 6) (h : hit s k = false) : innerF p s (k + 1) = innerF p s k ∧ innerP p s (k + 1) = innerP p s k := by
  have e : innerF p s (k + 1) = innerF p s k := by
    unfold innerF
    have hne : idxI s ≠ k := fun e => by
      rcases idx_cases s with ⟨i, hi, h1, h2, _⟩ | ⟨h1, _⟩
      · have : i = k := by omega
        subst this; rw [h2] at h; cases h
      · omega
    have : decide (idxI s < ((k + 1 : Nat) : Int)) = decide (idxI s < (k : Int)) := by
      apply decide_eq_decide.2; omega
    rw [this]
  exact ⟨e, by unfold innerP; rw [e]⟩
theorem inner_at {p : Nat → Bool} {s : ByteArray} {k : Nat} (hk : k < 6) (h : hit s k = true) : innerF p s k = false ∧ innerP p s k = p ∧ innerF p s (k + 1) = !p k ∧ innerP p s (k + 1) = (if p k = true then p else setP p k) := by
  have e := hit_idx hk h
  have e1 : innerF p s k = false := by unfold innerF; simp [e]
  have e2 : innerF p s (k + 1) = !p k := by unfold innerF; simp [e]; omega
  refine ⟨e1, by unfold innerP; rw [e1]; simp, e2, ?_⟩
  unfold innerP; rw [e2, e]
  cases p k <;> simp
theorem inner_6 (p : Nat → Bool) (s : ByteArray) : stepP p s = if innerF p s 6 = true then some (innerP p s 6) else none := by
  rcases idx_cases s with ⟨i, hi, h1, h2, _⟩ | ⟨h1, _⟩
  · cases hp : p i with
    | true =>
      rw [step_dup h1 hp]
      have : innerF p s 6 = false := by unfold innerF; simp [h1, hp]
      rw [this]; simp
    | false =>
      rw [step_new h1 hp]
      have : innerF p s 6 = true := by unfold innerF; simp [h1, hp]; omega
      unfold innerP
      rw [this, h1]; simp
  · rw [step_no h1]
    have : innerF p s 6 = false := by unfold innerF; simp [h1]
    rw [this]; simp

set_option maxRecDepth 100000 in
set_option maxHeartbeats 4000000 in
theorem refOf_any (w : World) (v : Value) (xs : List ByteArray) (hr : RdS w v xs) (hn : xs.length ≤ 140737488355328) : Calls Tryd.prog 8 #[v] w (RV (ansP (ofP xs zeroP)) w) := by
  have HR := Lib.hid hr
  obtain ⟨A, c, rfl, hc, -⟩ := hr
  obtain ⟨n, hn'⟩ : ∃ n, n = xs.length := ⟨_, rfl⟩
  rw [← hn'] at HR hn hc ⊢
  have HN := Lib.hid hn'
  clear hn'
  go_enter Tryd.func8, Tryd.ntmps8
  go_wp2_with fail
  obtain ⟨W1, hW1⟩ : ∃ W1, W1 = (w.alloc (.cells #[.bool false, .bool false, .bool false, .bool false, .bool false, .bool false] 25)).alloc (.cells #[.bool false, .bool false, .bool false, .bool false, .bool false, .bool false] 4) := ⟨_, rfl⟩
  rw [← hW1]
  have hat : RefAt w w.heap.size (w.heap.size + 1) zeroP W1 := by
    rw [hW1]
    refine ⟨below_alloc (below_alloc (Below.refl _ _) _) _, Nat.le_refl _, by omega, by simp; omega, by simp, by omega, fun j hj => ?_, fun j hj => ?_, fun j hj => ?_, fun j hj => ?_⟩
    · rw [World.cell?_alloc_at _ _ _ _ (by simp)]; exact bit_cells' false false false false false false j hj |>.trans (by congr 2; unfold bit zeroP; split <;> rfl)
    · rw [World.frozen?_alloc_at _ _ _ _ (by simp)]
    · rw [World.cell?_alloc_past _ _ _ (by simp), World.cell?_alloc_at _ _ _ _ rfl]; exact bit_cells' false false false false false false j hj |>.trans (by congr 2; unfold bit; split <;> rfl)
    · rw [World.frozen?_alloc_past _ _ _ (by simp), World.frozen?_alloc_at _ _ _ _ rfl]
  obtain ⟨L, hL⟩ : ∃ L, L = w.heap.size + 1 := ⟨_, rfl⟩
  obtain ⟨R, hRR⟩ : ∃ R, R = w.heap.size := ⟨_, rfl⟩
  rw [← hL, ← hRR] at hat ⊢
  have HAT := Lib.hid hat
  clear hat hW1 hL hRR
  go_loopw [5] (fun i wr => ∃ (k : Nat) (p : Nat → Bool), k ≤ n ∧ i = .int .i64 k ∧ ofP xs zeroP = ofP (xs.drop k) p ∧ RefAt w R L p wr) (fun i _ => n - (intOf i).toNat)
  case atStart => exact ⟨0, zeroP, by omega, rfl, rfl, HAT.out⟩
  case round =>
    obtain ⟨k, p, hk, rfl, he, hat⟩ := hrel
    have HE := Lib.hid he
    have HA := Lib.hid hat
    clear he
    by_cases hlt : k < n
    · have hkn : (k : Int) < n := by omega
      obtain ⟨s, hs⟩ : ∃ s, xs[k]? = some s := ⟨xs[k]'(by rw [← HN.out]; exact hlt), List.getElem?_eq_getElem _⟩
      obtain ⟨A', c', e1, e2, e3⟩ := HR.out
      injection e1 with f1 f2 f3
      subst f1
      obtain ⟨g, o, hAg, hg, hcell⟩ := e3 (by rw [← HN.out]; omega)
      subst hAg
      have HSC := Lib.hid (hcell k s hs)
      have HG := Lib.hid hg
      have HS := Lib.hid hs
      clear hat e2 e3 hcell hs f2 f3 hg
      go_wp2_with fail
      go_loopw [6, 7] (fun f i wx => ∃ j : Nat, j ≤ 6 ∧ i = .int .i64 j ∧ f = .bool (innerF p s j) ∧ RefAt w R L (innerP p s j) wx) (fun _ i _ => 6 - (intOf i).toNat)
      case atStart => exact ⟨0, by omega, rfl, by rw [(inner_0 p s).1], by rw [(inner_0 p s).2]; exact HA.out⟩
      case round =>
        obtain ⟨j, hj, rfl, rfl, hat⟩ := hrel
        by_cases hj6 : j < 6
        · have hj6' : (j : Int) < 6 := by omega
          have hsc : wr.cell? ⟨g, o + k, none⟩ = some (.string s) := by rw [hat.bel.cell HG.out]; exact HSC.out
          obtain ⟨x, hx⟩ : ∃ x, x = nmK j := ⟨_, rfl⟩
          have hnm : ∀ W : World, (W.alloc (.cells nmsV 9)).cell? ⟨W.heap.size, j, none⟩ = some (.string x) := fun W => by
            rw [World.cell?_alloc_at _ _ _ _ rfl, hx]; exact nms_at hj6
          have hgo : ∀ W : World, wr.heap.size ≤ W.heap.size → True := fun _ _ => trivial
          have hL := hat.cl j hj6
          have hLf := hat.fl j hj6
          have hlo := Nat.lt_of_lt_of_le HG.out hat.bel.size
          have hal : ∀ ob : Obj, (wr.alloc ob).cell? ⟨g, o + k, none⟩ = some (.string s) := fun ob => by rw [World.cell?_alloc_past _ _ _ hlo]; exact hsc
          have hbl : ∀ ob : Obj, (wr.alloc ob).cell? ⟨L, j, none⟩ = some (.bool (innerP p s j j)) := fun ob => by rw [World.cell?_alloc_past _ _ _ hat.hiL]; exact hL
          have hbf : ∀ ob : Obj, (wr.alloc ob).frozen? ⟨L, j, none⟩ = false := fun ob => by rw [World.frozen?_alloc_past _ _ _ hat.hiL]; exact hLf
          have HAT2 := Lib.hid hat
          have HLO := Lib.hid hlo
          clear hat hlo hgo
          cases hz : hit s j with
          | false =>
            have hz' : (x.toList == s.toList) = false := by rw [hx]; exact hz
            obtain ⟨i1, i2⟩ := inner_no (p := p) hj6 hz
            have HI1 := Lib.hid i1
            have HI2 := Lib.hid i2
            obtain ⟨b1, hb1⟩ : ∃ b, b = innerF p s j := ⟨_, rfl⟩
            obtain ⟨b2, hb2⟩ : ∃ b, b = innerP p s j j := ⟨_, rfl⟩
            rw [← hb1]
            rw [← hb2] at hbl hL
            have HB1 := Lib.hid hb1
            clear i1 i2 hz hx hb1 hb2
            go_wp2_with fail
            first | go_region_with (go_at_call 21; refine (names_any _).mono ?_; rintro r w' ⟨rfl, rfl⟩) | fail "REG"
            all_goals go_wp2_with fail
            all_goals go_roundw
            all_goals first | (simp [intOf]; omega) | exact ⟨j + 1, by omega, by go_num, by rw [HI1.out, ← HB1.out], by rw [HI2.out]; exact HAT2.out.below ((below_alloc (Below.refl _ _) _).drew)⟩
          | true =>
            have hz' : (x.toList == s.toList) = true := by rw [hx]; exact hz
            obtain ⟨i0, i1, i2, i3⟩ := inner_at (p := p) hj6 hz
            rw [i0]
            rw [i1] at hbl hL HAT2
            cases hp : p j with
            | true =>
              rw [hp] at i2 i3 hbl hL
              have HI1 := Lib.hid i2
              have HI2 := Lib.hid i3
              clear i0 i1 i2 i3 hz hx hp
              go_wp2_with fail
              first | go_region_with (go_at_call 21; refine (names_any _).mono ?_; rintro r w' ⟨rfl, rfl⟩) | fail "REG"
              all_goals go_wp2_with fail
              all_goals go_roundw
              all_goals first | (simp [intOf]; omega) | exact ⟨j + 1, by omega, by go_num, by rw [HI1.out]; rfl, by rw [HI2.out]; exact HAT2.out.below ((below_alloc (Below.refl _ _) _).drew)⟩
            | false =>
              rw [hp] at i2 i3 hbl hL
              have HI1 := Lib.hid i2
              have HI2 := Lib.hid i3
              clear i0 i1 i2 i3 hz hx hp
              go_wp2_with fail
              first | go_region_with (go_at_call 21; refine (names_any _).mono ?_; rintro r w' ⟨rfl, rfl⟩) | fail "REG"
              all_goals go_wp2_with fail
              all_goals go_roundw
              all_goals first | (simp [intOf]; omega) | exact ⟨j + 1, by omega, by go_num, by rw [HI1.out]; rfl, by rw [HI2.out]; exact (HAT2.out.below ((below_alloc (Below.refl _ _) _).drew)).set (by omega)⟩
        · obtain rfl : j = 6 := by omega
          have HAT2 := Lib.hid hat
          cases hf : innerF p s 6 with
          | false =>
            have hst : stepP p s = none := by rw [inner_6, hf]; rfl
            have HO := Lib.hid (HE.out.trans (ofP_no HS.out hst))
            have r0 := hat.cr 0 (by omega)
            have r1 := hat.cr 1 (by omega)
            have r2 := hat.cr 2 (by omega)
            have r3 := hat.cr 3 (by omega)
            have r4 := hat.cr 4 (by omega)
            have r5 := hat.cr 5 (by omega)
            have q0 := hat.fr 0 (by omega)
            have q1 := hat.fr 1 (by omega)
            have q2 := hat.fr 2 (by omega)
            have q3 := hat.fr 3 (by omega)
            have q4 := hat.fr 4 (by omega)
            have q5 := hat.fr 5 (by omega)
            clear hat hst hf
            go_wp2_with fail
            refine bodyPost_ret (v := ansP none) (by simp [results, Tryd.results8, go_sem, ansP, aggP, zeroP, r0, r1, r2, r3, r4, r5]) rfl (rv_eq ⟨rfl, ?_⟩ (by rw [HO.out]))
            exact (((((HAT2.out.bel.setCell HAT2.out.loR _).setCell HAT2.out.loR _).setCell HAT2.out.loR _).setCell HAT2.out.loR _).setCell HAT2.out.loR _).setCell HAT2.out.loR _
          | true =>
            have hst : stepP p s = some (innerP p s 6) := by rw [inner_6, hf]; rfl
            have HO := Lib.hid (HE.out.trans (ofP_new HS.out hst))
            clear hat hst hf
            go_wp2_with fail
            go_roundw
            case rel => exact ⟨k + 1, _, by omega, by go_num, HO.out, HAT2.out⟩
            case measure => simp [intOf]; omega
    · obtain rfl : k = n := by omega
      have HO := Lib.hid (HE.out.trans (ofP_end (by rw [← HN.out]; exact Nat.le_refl _)))
      have r0 := hat.cr 0 (by omega)
      have r1 := hat.cr 1 (by omega)
      have r2 := hat.cr 2 (by omega)
      have r3 := hat.cr 3 (by omega)
      have r4 := hat.cr 4 (by omega)
      have r5 := hat.cr 5 (by omega)
      have q0 := hat.fr 0 (by omega)
      have q1 := hat.fr 1 (by omega)
      have q2 := hat.fr 2 (by omega)
      have q3 := hat.fr 3 (by omega)
      have q4 := hat.fr 4 (by omega)
      have q5 := hat.fr 5 (by omega)
      have HAT2 := Lib.hid hat
      have CO := Lib.hid (fun (h : 6 ≤ 6) => of_any L 6 6 (p 0) (p 1) (p 2) (p 3) (p 4) (p 5) wr (by omega) hat.hiL (hat.cl 0 (by omega)) (hat.cl 1 (by omega)) (hat.cl 2 (by omega)) (hat.cl 3 (by omega)) (hat.cl 4 (by omega)) (hat.cl 5 (by omega)))
      clear hat
      go_wp2_with fail
      refine (CO.out (by omega)).mono ?_
      rintro r w2 ⟨rfl, hb2⟩
      have hat := HAT2.out.below hb2
      clear r0 r1 r2 r3 r4 r5 q0 q1 q2 q3 q4 q5
      have r0 := hat.cr 0 (by omega)
      have r1 := hat.cr 1 (by omega)
      have r2 := hat.cr 2 (by omega)
      have r3 := hat.cr 3 (by omega)
      have r4 := hat.cr 4 (by omega)
      have r5 := hat.cr 5 (by omega)
      have q0 := hat.fr 0 (by omega)
      have q1 := hat.fr 1 (by omega)
      have q2 := hat.fr 2 (by omega)
      have q3 := hat.fr 3 (by omega)
      have q4 := hat.fr 4 (by omega)
      have q5 := hat.fr 5 (by omega)
      have HA3 := Lib.hid hat
      clear hat hb2
      go_wp2_with fail
      refine bodyPost_ret (v := ansP (some p)) (by simp [results, Tryd.results8, go_sem, ansP, aggP, r0, r1, r2, r3, r4, r5]) rfl (rv_eq ⟨rfl, ?_⟩ (by rw [HO.out]))
      exact (((((HA3.out.bel.setCell HA3.out.loR _).setCell HA3.out.loR _).setCell HA3.out.loR _).setCell HA3.out.loR _).setCell HA3.out.loR _).setCell HA3.out.loR _

end Go.Proofs.YtagopeefobefnaaDoor
