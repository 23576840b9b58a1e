/- The reference's Parse; the law OptionParses. -/
import Derived.Test.YtagopeefobefnaaDoorDoI
import Derived.Test.YtagopeefobefnaaDoorDoJ
namespace Go.Proofs.YtagopeefobefnaaDoor
open Go.RowKit
set_option linter.unusedSimpArgs false
set_option linter.unusedVariables false

theorem str_eq {a b : ByteArray} (h : (a.toList == b.toList) = true) : a = b :=
  Go.WideShapes.bytes_inj (by have := eq_of_beq h; rwa [ByteArray.toList_eq, ByteArray.toList_eq] at this)
def tx (n : Nat) : ByteArray := text (nb n 0) (nb n 1) (nb n 2) (nb n 3) (nb n 4) (nb n 5)
theorem bits_of (a b c d e f : Bool) : ∃ n, n < 64 ∧ nb n 0 = a ∧ nb n 1 = b ∧ nb n 2 = c ∧ nb n 3 = d ∧ nb n 4 = e ∧ nb n 5 = f := by
  refine ⟨a.toNat + 2 * b.toNat + 4 * c.toNat + 8 * d.toNat + 16 * e.toNat + 32 * f.toNat, ?_, ?_⟩
  · cases a <;> cases b <;> cases c <;> cases d <;> cases e <;> cases f <;> decide
  · cases a <;> cases b <;> cases c <;> cases d <;> cases e <;> cases f <;> exact ⟨rfl, rfl, rfl, rfl, rfl, rfl⟩
theorem tx_of (a b c d e f : Bool) : ∃ n, n < 64 ∧ tx n = text a b c d e f := by
  obtain ⟨n, hn, h0, h1, h2, h3, h4, h5⟩ := bits_of a b c d e f
  exact ⟨n, hn, by unfold tx; rw [h0, h1, h2, h3, h4, h5]⟩
theorem par_at {s : ByteArray} {n : Nat} (h : ((tx n).toList == s.toList) = true) : ansP (parseP s) = .tuple #[.agg #[.bool (nb n 0), .bool (nb n 1), .bool (nb n 2), .bool (nb n 3), .bool (nb n 4), .bool (nb n 5)], .bool true] := by
  rw [← str_eq h]
  exact parse_text' _ _ _ _ _ _
theorem par_none {s : ByteArray} (h : ∀ n, n < 64 → ((tx n).toList == s.toList) = false) : parseP s = none := by
  unfold parseP
  split
  · rename_i hz
    obtain ⟨n, hn, he⟩ := tx_of false false false false false false
    have h1 := h n hn
    rw [he] at h1
    have h2 : (text false false false false false false).toList = [45] := by kernel_rfl
    rw [h2] at h1
    have h3 := eq_of_beq hz
    rw [h3] at h1
    simp at h1
  · split
    · rfl
    · rename_i p hp
      split
      · rename_i hq
        obtain ⟨n, hn, he⟩ := tx_of (p 0) (p 1) (p 2) (p 3) (p 4) (p 5)
        have h1 := h n hn
        rw [he] at h1
        rw [show text (p 0) (p 1) (p 2) (p 3) (p 4) (p 5) = textP p from rfl, hq] at h1
        cases h1
      · rfl
theorem cellsN_at (n j : Nat) (hj : j < 6) : (cellsN n)[j]? = some (.bool (nb n j)) := by
  match j, hj with
  | 0, _ => rfl
  | 1, _ => rfl
  | 2, _ => rfl
  | 3, _ => rfl
  | 4, _ => rfl
  | 5, _ => rfl
theorem allN_at {N n j : Nat} (hn : n < N) (hj : j < 6) : (allN N)[n * 6 + j]? = some (.bool (nb n j)) := by
  induction N with
  | zero => omega
  | succ N ih =>
    unfold allN
    by_cases h : n < N
    · rw [List.getElem?_append_left (by rw [allN_length]; omega)]; exact ih h
    · obtain rfl : n = N := by omega
      rw [List.getElem?_append_right (by rw [allN_length]; omega), allN_length, Nat.add_sub_cancel_left]
      exact cellsN_at n j hj
/-- The 64 records at block g. -/
def Recs (g : Nat) (w : World) : Prop := g < w.heap.size ∧ ∀ n, n < 64 → ∀ j, j < 6 → w.cell? ⟨g, n * 6 + j, none⟩ = some (.bool (nb n j))
theorem Recs.below {g : Nat} {w w' : World} (h : Recs g w) (hb : Below w.heap.size w w') : Recs g w' :=
  ⟨Nat.lt_of_lt_of_le h.1 hb.size, fun n hn j hj => by rw [hb.cell h.1]; exact h.2 n hn j hj⟩

set_option maxRecDepth 100000 in
set_option maxHeartbeats 4000000 in
theorem refparse_any (s : ByteArray) (w : World) : Calls Tryd.prog 14 #[.string s] w (RV (ansP (parseP s)) w) := by
  have hpa : ParAt w w.heap.size (w.alloc (.cells #[.bool false, .bool false, .bool false, .bool false, .bool false, .bool false] 25)) := by
    refine ⟨below_alloc (Below.refl _ _) _, Nat.le_refl _, by simp, fun j hj => ?_, fun j hj => ?_⟩
    · rw [World.cell?_alloc_at _ _ _ _ rfl]; exact bit_cells' false false false false false false j hj |>.trans (by congr 2; unfold bit; split <;> rfl)
    · rw [World.frozen?_alloc_at _ _ _ _ rfl]
  have HPA := Lib.hid hpa
  clear hpa
  go_enter Tryd.func14, Tryd.ntmps14
  go_wp2_with fail
  refine (all_any _).mono ?_
  rintro r w1 ⟨A, cp, rfl, ho, hb⟩
  obtain ⟨g, rfl, hrec⟩ : ∃ g, A = some ⟨g, 0, none⟩ ∧ Recs g w1 := by
    have h0 := ho
    rcases ho.2 with ⟨e, e2⟩ | ⟨g, cap, cur, e, hb', hg, _⟩
    · omega
    · injection e with e1
      refine ⟨g, e1, (Array.getElem?_eq_some_iff.1 hg).1, fun n hn j hj => ?_⟩
      have := h0.cells (g := g) (by rw [e1]; rfl) (n * 6 + j) (.bool (nb n j)) (allN_at hn hj)
      rwa [add_plain] at this
  have HR := Lib.hid hrec
  have HP := Lib.hid (HPA.out.below hb)
  obtain ⟨R, hR⟩ : ∃ R, R = w.heap.size := ⟨_, rfl⟩
  rw [← hR] at HP ⊢
  clear ho hb hrec hR HPA
  go_wp2_with fail
  go_loopw [5] (fun i wr => ∃ n : Nat, n ≤ 64 ∧ i = .int .i64 n ∧ (∀ k, k < n → ((tx k).toList == s.toList) = false) ∧ Below w1.heap.size w1 wr) (fun i _ => 64 - (intOf i).toNat)
  case atStart => exact ⟨0, by omega, rfl, fun k hk => by omega, Below.refl _ _⟩
  case round =>
    obtain ⟨n, hn, rfl, hl, hb⟩ := hrel
    have HLL := Lib.hid hl
    have HB := Lib.hid hb
    by_cases hlt : n < 64
    · have hn64 : (n : Int) < 64 := by omega
      have hrec := HR.out.below hb
      have c0 := hrec.2 n hlt 0 (by omega)
      have c1 := hrec.2 n hlt 1 (by omega)
      have c2 := hrec.2 n hlt 2 (by omega)
      have c3 := hrec.2 n hlt 3 (by omega)
      have c4 := hrec.2 n hlt 4 (by omega)
      have c5 := hrec.2 n hlt 5 (by omega)
      rw [Nat.add_zero] at c0
      have CT := Lib.hid (refText_any (nb n 0) (nb n 1) (nb n 2) (nb n 3) (nb n 4) (nb n 5))
      have HTX := Lib.hid (show tx n = text (nb n 0) (nb n 1) (nb n 2) (nb n 3) (nb n 4) (nb n 5) from rfl)
      rw [← HTX.out] at CT
      cases hz : ((tx n).toList == s.toList) with
      | true =>
        have HE := Lib.hid (par_at hz)
        obtain ⟨t, ht⟩ : ∃ t, t = tx n := ⟨_, rfl⟩
        rw [← ht] at hz CT
        obtain ⟨x0, h0⟩ : ∃ x, x = nb n 0 := ⟨_, rfl⟩
        obtain ⟨x1, h1⟩ : ∃ x, x = nb n 1 := ⟨_, rfl⟩
        obtain ⟨x2, h2⟩ : ∃ x, x = nb n 2 := ⟨_, rfl⟩
        obtain ⟨x3, h3⟩ : ∃ x, x = nb n 3 := ⟨_, rfl⟩
        obtain ⟨x4, h4⟩ : ∃ x, x = nb n 4 := ⟨_, rfl⟩
        obtain ⟨x5, h5⟩ : ∃ x, x = nb n 5 := ⟨_, rfl⟩
        rw [← h0, ← h1, ← h2, ← h3, ← h4, ← h5] at HE CT
        rw [← h0] at c0
        rw [← h1] at c1
        rw [← h2] at c2
        rw [← h3] at c3
        rw [← h4] at c4
        rw [← h5] at c5
        clear hl hb hrec ht h0 h1 h2 h3 h4 h5 HTX
        go_wp2_with fail
        refine (CT.out _).mono ?_
        rintro r w3 ⟨rfl, hb3⟩
        have hb4 := below_then' HB.out hb3
        have hrec := HR.out.below hb4
        have hpa := HP.out.below hb4
        have d0 : w3.cell? ⟨g, n * 6, none⟩ = some (.bool x0) := by rw [hb3.cell (Nat.lt_of_lt_of_le HR.out.1 HB.out.size)]; exact c0
        have d1 : w3.cell? ⟨g, n * 6 + 1, none⟩ = some (.bool x1) := by rw [hb3.cell (Nat.lt_of_lt_of_le HR.out.1 HB.out.size)]; exact c1
        have d2 : w3.cell? ⟨g, n * 6 + 2, none⟩ = some (.bool x2) := by rw [hb3.cell (Nat.lt_of_lt_of_le HR.out.1 HB.out.size)]; exact c2
        have d3 : w3.cell? ⟨g, n * 6 + 3, none⟩ = some (.bool x3) := by rw [hb3.cell (Nat.lt_of_lt_of_le HR.out.1 HB.out.size)]; exact c3
        have d4 : w3.cell? ⟨g, n * 6 + 4, none⟩ = some (.bool x4) := by rw [hb3.cell (Nat.lt_of_lt_of_le HR.out.1 HB.out.size)]; exact c4
        have d5 : w3.cell? ⟨g, n * 6 + 5, none⟩ = some (.bool x5) := by rw [hb3.cell (Nat.lt_of_lt_of_le HR.out.1 HB.out.size)]; exact c5
        have r0 := hpa.cr 0 (by omega)
        have r1 := hpa.cr 1 (by omega)
        have r2 := hpa.cr 2 (by omega)
        have r3 := hpa.cr 3 (by omega)
        have r4 := hpa.cr 4 (by omega)
        have r5 := hpa.cr 5 (by omega)
        have q0 := hpa.fr 0 (by omega)
        have q1 := hpa.fr 1 (by omega)
        have q2 := hpa.fr 2 (by omega)
        have q3 := hpa.fr 3 (by omega)
        have q4 := hpa.fr 4 (by omega)
        have q5 := hpa.fr 5 (by omega)
        have HA := Lib.hid hpa
        clear hb3 hb4 hrec hpa c0 c1 c2 c3 c4 c5
        go_wp2_with fail
        refine bodyPost_ret (v := .tuple #[.agg #[.bool x0, .bool x1, .bool x2, .bool x3, .bool x4, .bool x5], .bool true]) (by simp [results, Tryd.results14, go_sem, r0, r1, r2, r3, r4, r5]) rfl (rv_eq ⟨rfl, ?_⟩ HE.out)
        exact (((((HA.out.bel.setCell HA.out.loR _).setCell HA.out.loR _).setCell HA.out.loR _).setCell HA.out.loR _).setCell HA.out.loR _).setCell HA.out.loR _
      | false =>
        have HL2 : Hid (∀ k, k < n + 1 → ((tx k).toList == s.toList) = false) := fun k hk => by
          by_cases e : k = n
          · rw [e]; exact hz
          · exact hl k (by omega)
        obtain ⟨t, ht⟩ : ∃ t, t = tx n := ⟨_, rfl⟩
        rw [← ht] at hz CT
        clear hl hb hrec ht HTX
        go_wp2_with fail
        refine (CT.out _).mono ?_
        rintro r w3 ⟨rfl, hb3⟩
        have HB4 := Lib.hid (below_then' HB.out hb3)
        clear hb3
        go_wp2_with fail
        go_roundw
        case rel => exact ⟨n + 1, by omega, by go_num, HL2.out, HB4.out⟩
        case measure => simp [intOf]; omega
    · obtain rfl : n = 64 := by omega
      have HE := Lib.hid (par_none hl)
      have hpa := HP.out.below hb
      have r0 := hpa.cr 0 (by omega)
      have r1 := hpa.cr 1 (by omega)
      have r2 := hpa.cr 2 (by omega)
      have r3 := hpa.cr 3 (by omega)
      have r4 := hpa.cr 4 (by omega)
      have r5 := hpa.cr 5 (by omega)
      have q0 := hpa.fr 0 (by omega)
      have q1 := hpa.fr 1 (by omega)
      have q2 := hpa.fr 2 (by omega)
      have q3 := hpa.fr 3 (by omega)
      have q4 := hpa.fr 4 (by omega)
      have q5 := hpa.fr 5 (by omega)
      have HA := Lib.hid hpa
      clear hpa hl hb
      go_wp2_with fail
      refine bodyPost_ret (v := ansP none) (by simp [results, Tryd.results14, go_sem, ansP, aggP, zeroP, r0, r1, r2, r3, r4, r5]) rfl (rv_eq ⟨rfl, ?_⟩ (by rw [HE.out]))
      exact (((((HA.out.bel.setCell HA.out.loR _).setCell HA.out.loR _).setCell HA.out.loR _).setCell HA.out.loR _).setCell HA.out.loR _).setCell HA.out.loR _

end Go.Proofs.YtagopeefobefnaaDoor
