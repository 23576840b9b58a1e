/- slices.IndexFunc over the fields with the closure of option.Of. -/
import Derived.Test.YtagopeefobefnaaDoorDoC
namespace Go.Proofs.YtagopeefobefnaaDoor
open Go.RowKit
set_option linter.unusedSimpArgs false
set_option linter.unusedVariables false

def nmK : Nat → ByteArray
  | 0 => nm0 | 1 => nm1 | 2 => nm2 | 3 => nm3 | 4 => nm4 | _ => nm5
def mthK : Nat → FuncId
  | 0 => 29 | 1 => 30 | 2 => 31 | 3 => 32 | 4 => 33 | _ => 34
/-- Is s name number k? -/
def hit (s : ByteArray) (k : Nat) : Bool := (nmK k).toList == s.toList
/-- The number of a name. -/
def idxI (s : ByteArray) : Int := if hit s 0 then 0 else if hit s 1 then 1 else if hit s 2 then 2 else if hit s 3 then 3 else if hit s 4 then 4 else if hit s 5 then 5 else -1
theorem idx_at {s : ByteArray} {k : Nat} (hk : k < 6) (h : hit s k = true) (hl : ∀ j, j < k → hit s j = false) : idxI s = k := by
  unfold idxI
  match k, hk with
  | 0, _ => simp [h]
  | 1, _ => simp [h, hl 0 (by omega)]
  | 2, _ => simp [h, hl 0 (by omega), hl 1 (by omega)]
  | 3, _ => simp [h, hl 0 (by omega), hl 1 (by omega), hl 2 (by omega)]
  | 4, _ => simp [h, hl 0 (by omega), hl 1 (by omega), hl 2 (by omega), hl 3 (by omega)]
  | 5, _ => simp [h, hl 0 (by omega), hl 1 (by omega), hl 2 (by omega), hl 3 (by omega), hl 4 (by omega)]
theorem idx_no {s : ByteArray} (hl : ∀ j, j < 6 → hit s j = false) : idxI s = -1 := by
  unfold idxI
  simp [hl 0 (by omega), hl 1 (by omega), hl 2 (by omega), hl 3 (by omega), hl 4 (by omega), hl 5 (by omega)]
theorem idx_cases (s : ByteArray) : (∃ k : Nat, k < 6 ∧ idxI s = k ∧ hit s k = true ∧ ∀ j, j < k → hit s j = false) ∨ (idxI s = -1 ∧ ∀ j, j < 6 → hit s j = false) := by
  by_cases h : ∃ k, k < 6 ∧ hit s k = true
  · left
    have : ∀ n, n ≤ 6 → (∃ k, k < n ∧ hit s k = true) → ∃ k, k < n ∧ hit s k = true ∧ ∀ j, j < k → hit s j = false := by
      intro n
      induction n with
      | zero => rintro _ ⟨k, hk, _⟩; omega
      | succ n ih =>
        rintro hn ⟨k, hk, hh⟩
        by_cases h2 : ∃ k, k < n ∧ hit s k = true
        · obtain ⟨k', h3, h4⟩ := ih (by omega) h2
          exact ⟨k', by omega, h4⟩
        · refine ⟨k, hk, hh, fun j hj => ?_⟩
          cases e : hit s j with
          | false => rfl
          | true => exact absurd ⟨j, by omega, e⟩ h2
    obtain ⟨k, h1, h2, h3⟩ := this 6 (Nat.le_refl _) h
    exact ⟨k, h1, idx_at h1 h2 h3, h2, h3⟩
  · right
    have hl : ∀ j, j < 6 → hit s j = false := fun j hj => by
      cases e : hit s j with
      | false => rfl
      | true => exact absurd ⟨j, hj, e⟩ h
    exact ⟨idx_no hl, hl⟩
/-- The fields at block g. -/
def Flds (g : Nat) (w : World) : Prop := g < w.heap.size ∧ ∀ k, k < 6 → w.cell? ⟨g, k * 2, none⟩ = some (.string (nmK k)) ∧ w.cell? ⟨g, k * 2 + 1, none⟩ = some (.func (.func (mthK k)) #[] #[])
theorem Flds.below {g : Nat} {w w' : World} (h : Flds g w) (hb : Below w.heap.size w w') : Flds g w' :=
  ⟨Nat.lt_of_lt_of_le h.1 hb.size, fun k hk => ⟨by rw [hb.cell h.1]; exact (h.2 k hk).1, by rw [hb.cell h.1]; exact (h.2 k hk).2⟩⟩

set_option maxRecDepth 100000 in
set_option maxHeartbeats 1000000 in
theorem closure_any (x : ByteArray) (F : Value) (B : Nat) (s : ByteArray) (w : World) (hB : B < w.heap.size) (hs : w.cell? ⟨B, 0, none⟩ = some (.string s)) (z : Bool) (hz : (x.toList == s.toList) = z) :
    Calls Tryd.prog 20 #[.agg #[.string x, F], .pointer (some ⟨B, 0, none⟩)] w (RB z w) := by
  go_enter Tryd.func20, Tryd.ntmps20
  go_wp2_with fail
  go_ret
  exact ⟨rfl, below_alloc (Below.refl _ _) _⟩

set_option maxRecDepth 100000 in
set_option maxHeartbeats 1000000 in
theorem index_any (g B : Nat) (s : ByteArray) (w : World) (hF : Flds g w) (hB : B < w.heap.size) (hs : w.cell? ⟨B, 0, none⟩ = some (.string s)) :
    Calls Tryd.prog 19 #[.slice (some ⟨g, 0, none⟩) 6 6, .func (.func 20) #[] #[.pointer (some ⟨B, 0, none⟩)]] w (RV (.int .i64 (idxI s)) w) := by
  have HF := Lib.hid hF
  have HB := Lib.hid hB
  have HS := Lib.hid hs
  clear hF hB hs
  go_enter Tryd.func19, Tryd.ntmps19
  go_wp2
  go_loopw [5, 8] (fun _ i wr => ∃ k : Nat, k ≤ 6 ∧ i = .int .i64 k ∧ (∀ j, j < k → hit s j = false) ∧ Below w.heap.size w wr) (fun _ i _ => 6 - (intOf i).toNat)
  case atStart => exact ⟨0, by omega, rfl, fun j hj => by omega, Below.refl _ _⟩
  case round =>
    obtain ⟨k, hk, rfl, hl, hb⟩ := hrel
    have HL := Lib.hid hl
    have HBL := Lib.hid hb
    by_cases hlt : k < 6
    · have hF := HF.out.below hb
      have hn := (hF.2 k hlt).1
      have hm := (hF.2 k hlt).2
      have hs := HS.out
      rw [← hb.cell (p := ⟨B, 0, none⟩) HB.out] at hs
      have hB := Nat.lt_of_lt_of_le HB.out hb.size
      obtain ⟨x, hx⟩ : ∃ x, x = nmK k := ⟨_, rfl⟩
      obtain ⟨fv, hfv⟩ : ∃ x, x = mthK k := ⟨_, rfl⟩
      rw [← hx] at hn
      rw [← hfv] at hm
      have hk6 : (k : Int) < 6 := by omega
      cases hz : hit s k with
      | true =>
        have hc := Lib.hid (closure_any x (.func (.func fv) #[] #[]) B s wr hB hs true (by rw [hx]; exact hz))
        have HE := Lib.hid (idx_at hlt hz hl)
        clear hl hb hF hs hB hx hfv
        go_wp2_with fail
        refine hc.out.mono ?_
        rintro r w1 ⟨rfl, hb1⟩
        have HB1 := Lib.hid (below_then' HBL.out hb1)
        clear hb1
        go_wp2_with fail
        go_ret
        exact rv_eq ⟨rfl, HB1.out⟩ (by rw [HE.out]; rfl)
      | false =>
        have hc := Lib.hid (closure_any x (.func (.func fv) #[] #[]) B s wr hB hs false (by rw [hx]; exact hz))
        have HL2 : Hid (∀ j, j < k + 1 → hit s j = false) := fun j hj => by
          by_cases e : j = k
          · rw [e]; exact hz
          · exact hl j (by omega)
        clear hl hb hF hs hB hx hfv
        go_wp2_with fail
        refine hc.out.mono ?_
        rintro r w1 ⟨rfl, hb1⟩
        have HB1 := Lib.hid (below_then' HBL.out hb1)
        clear hb1
        go_wp2_with fail
        go_roundw
        case rel => exact ⟨k + 1, by omega, by go_num, HL2.out, HB1.out⟩
        case measure => simp [intOf]; omega
    · obtain rfl : k = 6 := by omega
      have HE := Lib.hid (idx_no hl)
      clear hl hb
      go_wp2_with fail
      go_ret
      exact rv_eq ⟨rfl, HBL.out⟩ (by rw [HE.out]; rfl)

end Go.Proofs.YtagopeefobefnaaDoor
