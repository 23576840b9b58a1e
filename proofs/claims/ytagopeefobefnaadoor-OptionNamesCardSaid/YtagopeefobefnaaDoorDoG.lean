/- The reference's Text. -/
import Derived.Test.YtagopeefobefnaaDoorDoF
namespace Go.Proofs.YtagopeefobefnaaDoor
open Go.RowKit
set_option linter.unusedSimpArgs false
set_option linter.unusedVariables false

/-- The text of the first k options. -/
def rt (p : Nat → Bool) : Nat → ByteArray
  | 0 => ⟨#[]⟩
  | k + 1 => if p k = true then (if ((rt p k).toList == []) = true then rt p k ++ nmK k else rt p k ++ ⟨#[32]⟩ ++ nmK k) else rt p k
def rtEnd (p : Nat → Bool) : ByteArray := if ((rt p 6).toList == []) = true then ⟨#[45]⟩ else rt p 6
theorem rt_end (a b c d e f : Bool) : rtEnd (bit a b c d e f) = text a b c d e f := by
  cases a <;> cases b <;> cases c <;> cases d <;> cases e <;> cases f <;> kernel_rfl
theorem rt_no {p : Nat → Bool} {k : Nat} (h : p k = false) : rt p (k + 1) = rt p k := by
  conv => lhs; unfold rt
  rw [h]; rfl
theorem rt_one {p : Nat → Bool} {k : Nat} (h : p k = true) (h2 : ((rt p k).toList == []) = true) : rt p (k + 1) = rt p k ++ nmK k := by
  conv => lhs; unfold rt
  rw [if_pos h, if_pos h2]
theorem rt_more {p : Nat → Bool} {k : Nat} (h : p k = true) (h2 : ((rt p k).toList == []) = false) : rt p (k + 1) = rt p k ++ ⟨#[32]⟩ ++ nmK k := by
  conv => lhs; unfold rt
  rw [if_pos h, if_neg (by rw [h2]; simp)]
theorem nmK_size (k : Nat) : (nmK k).size ≤ 8 := by
  unfold nmK
  split <;> decide
theorem rt_size (p : Nat → Bool) (k : Nat) : (rt p k).size ≤ 9 * k := by
  induction k with
  | zero => exact Nat.le_refl 0
  | succ k ih =>
    have hn := nmK_size k
    have e1 : (⟨#[32]⟩ : ByteArray).size = 1 := rfl
    unfold rt
    split
    · split
      · rw [ByteArray.size_append]; omega
      · rw [ByteArray.size_append, ByteArray.size_append]; omega
    · omega

set_option maxRecDepth 100000 in
set_option maxHeartbeats 4000000 in
theorem refText_any (a b c d e f : Bool) (w : World) : Calls Tryd.prog 15 #[.agg #[.bool a, .bool b, .bool c, .bool d, .bool e, .bool f]] w (RV (.string (text a b c d e f)) w) := by
  have HT := Lib.hid (rt_end a b c d e f)
  go_enter Tryd.func15, Tryd.ntmps15
  go_wp2_with fail
  refine (list_any a b c d e f _).mono ?_
  rintro r w1 ⟨L, rfl, hL, hb⟩
  obtain ⟨p, hp⟩ : ∃ p, p = bit a b c d e f := ⟨_, rfl⟩
  rw [← hp] at hL HT
  have HL := Lib.hid hL
  have HB := Lib.hid (below_then' (below_alloc (Below.refl _ _) _) hb)
  clear hp hL hb
  go_wp2_with fail
  go_loopw [3, 5] (fun s i wr => ∃ k : Nat, k ≤ 6 ∧ i = .int .i64 k ∧ s = .string (rt p k) ∧ Below w1.heap.size w1 wr) (fun _ i _ => 6 - (intOf i).toNat)
  case atStart => exact ⟨0, by omega, rfl, rfl, Below.refl _ _⟩
  case round =>
    obtain ⟨k, hk, rfl, rfl, hb⟩ := hrel
    have HBL := Lib.hid hb
    by_cases hlt : k < 6
    · have hrow := HL.out.below hb
      have hlk := hrow.cs k hlt
      have hk6 : (k : Int) < 6 := by omega
      have HSZ := Lib.hid (rt_size p k)
      cases hpk : p k with
      | false =>
        rw [hpk] at hlk
        have HE := Lib.hid (rt_no hpk)
        obtain ⟨s, hs⟩ : ∃ s, s = rt p k := ⟨_, rfl⟩
        rw [← hs]
        have HS := Lib.hid hs
        clear hs hpk hrow hb
        go_wp2_with fail
        go_roundw
        case rel => exact ⟨k + 1, by omega, by go_num, by rw [HE.out, HS.out], HBL.out⟩
        case measure => simp [intOf]; omega
      | true =>
        rw [hpk] at hlk
        obtain ⟨x, hx⟩ : ∃ x, x = nmK k := ⟨_, rfl⟩
        have hnm : ∀ W : World, (W.alloc (.cells nmsV 9)).cell? ⟨W.heap.size, k, none⟩ = some (.string x) := fun W => by
          rw [World.cell?_alloc_at _ _ _ _ rfl, hx]; exact nms_at hlt
        cases hz : ((rt p k).toList == []) with
        | true =>
          have HE := Lib.hid (rt_one hpk hz)
          obtain ⟨s, hs⟩ : ∃ s, s = rt p k := ⟨_, rfl⟩
          rw [← hs] at hz HE HSZ ⊢
          rw [← hx] at HE
          have hsz : s.size ≤ 100 := by have := HSZ.out; omega
          have hxs : x.size ≤ 8 := by rw [hx]; exact nmK_size k
          clear hs hpk hrow hb hx
          go_wp2_with fail
          refine (names_any _).mono ?_
          rintro r w2 ⟨rfl, rfl⟩
          go_wp2_with fail
          go_roundw
          case rel => exact ⟨k + 1, by omega, by go_num, by rw [HE.out], below_alloc HBL.out _⟩
          case measure => simp [intOf]; omega
        | false =>
          have HE := Lib.hid (rt_more hpk hz)
          obtain ⟨s, hs⟩ : ∃ s, s = rt p k := ⟨_, rfl⟩
          rw [← hs] at hz HE HSZ ⊢
          rw [← hx] at HE
          have hsz : s.size ≤ 100 := by have := HSZ.out; omega
          have hxs : x.size ≤ 8 := by rw [hx]; exact nmK_size k
          clear hs hpk hrow hb hx
          go_wp2_with fail
          refine (names_any _).mono ?_
          rintro r w2 ⟨rfl, rfl⟩
          go_wp2_with fail
          go_roundw
          case rel => exact ⟨k + 1, by omega, by go_num, by rw [HE.out], below_alloc HBL.out _⟩
          case measure => simp [intOf]; omega
    · obtain rfl : k = 6 := by omega
      have HBE := Lib.hid (below_then' HB.out HBL.out)
      cases hz : ((rt p 6).toList == []) with
      | true =>
        have HE := Lib.hid (show text a b c d e f = ⟨#[45]⟩ by rw [← HT.out]; unfold rtEnd; rw [if_pos hz])
        obtain ⟨s, hs⟩ : ∃ s, s = rt p 6 := ⟨_, rfl⟩
        rw [← hs] at hz ⊢
        clear hs hb
        go_wp2_with fail
        go_ret
        exact rv_eq ⟨rfl, HBE.out⟩ (by rw [HE.out]; rfl)
      | false =>
        have HE := Lib.hid (show text a b c d e f = rt p 6 by rw [← HT.out]; unfold rtEnd; rw [if_neg (by rw [hz]; simp)])
        obtain ⟨s, hs⟩ : ∃ s, s = rt p 6 := ⟨_, rfl⟩
        rw [← hs] at hz HE ⊢
        clear hs hb
        go_wp2_with fail
        go_ret
        exact rv_eq ⟨rfl, HBE.out⟩ (by rw [HE.out]; rfl)

end Go.Proofs.YtagopeefobefnaaDoor
