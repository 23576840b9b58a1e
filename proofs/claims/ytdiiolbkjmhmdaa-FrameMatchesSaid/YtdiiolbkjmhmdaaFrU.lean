/- few; what the events of Feed are: the beginning of the stream. -/
import Derived.Test.YtdiiolbkjmhmdaaFrN
namespace Go.Proofs.Ytdiiolbkjmhmdaa
open Go.RowKit
set_option linter.unusedSimpArgs false
set_option linter.unusedVariables false

/-- The events: frames, and behind them at most one verdict. -/
def Form (b : Bool) (s : St) (xs : List Int) (fs : List (List Int)) : Prop :=
  (∀ f ∈ fs, 19 ≤ f.length) ∧
  (((feed b s xs).1.closed = false ∧ (feed b s xs).2 = fs.map evF ∧ s.kept ++ xs = fs.flatten ++ (feed b s xs).1.kept) ∨
   ((feed b s xs).1.closed = true ∧ (feed b s xs).1.kept = [] ∧ ∃ (h : Ans) (rest : List Int), ¬ h.va = 0 ∧ (feed b s xs).2 = fs.map evF ++ [evV h] ∧ s.kept ++ xs = fs.flatten ++ rest))
theorem one_form (b : Bool) (s : St) (c : Int) (hc : s.closed = false) :
    ((one b s c).1.closed = false ∧ (one b s c).2 = [] ∧ (one b s c).1.kept = s.kept ++ [c]) ∨
    ((one b s c).1.closed = false ∧ (one b s c).2 = [evF (s.kept ++ [c])] ∧ (one b s c).1.kept = [] ∧ 19 ≤ (s.kept ++ [c]).length) ∨
    ((one b s c).1.closed = true ∧ (one b s c).1.kept = [] ∧ ∃ h : Ans, ¬ h.va = 0 ∧ (one b s c).2 = [evV h]) := by
  unfold one
  split
  · split
    · rename_i hv
      exact .inr (.inr ⟨rfl, rfl, _, hv, rfl⟩)
    · split
      · rename_i h
        exact .inr (.inl ⟨hc, rfl, rfl, h.1⟩)
      · exact .inl ⟨hc, rfl, rfl⟩
  · split
    · rename_i h
      exact .inr (.inl ⟨hc, rfl, rfl, h.1⟩)
    · exact .inl ⟨hc, rfl, rfl⟩
theorem feed_form (b : Bool) : ∀ (xs : List Int) (s : St), s.closed = false → ∃ fs, Form b s xs fs
  | [], s, hc => ⟨[], by simp, .inl ⟨hc, rfl, by simp [feed]⟩⟩
  | c :: r, s, hc => by
    have hn : ¬ s.closed = true := by simp [hc]
    rcases one_form b s c hc with ⟨h1, h2, h3⟩ | ⟨h1, h2, h3, h4⟩ | ⟨h1, h2, h, hv, h3⟩
    · obtain ⟨fs, hl, h⟩ := feed_form b r (one b s c).1 h1
      refine ⟨fs, hl, ?_⟩
      rw [feed_cons hn, h2]
      rw [h3] at h
      simp only [List.append_assoc, List.cons_append, List.nil_append] at h
      exact h
    · obtain ⟨fs, hl, h⟩ := feed_form b r (one b s c).1 h1
      refine ⟨(s.kept ++ [c]) :: fs, ?_, ?_⟩
      · intro f hf
        rcases List.mem_cons.1 hf with rfl | hf
        · exact h4
        · exact hl f hf
      · rw [feed_cons hn, h2]
        rw [h3] at h
        rcases h with ⟨k1, k2, k3⟩ | ⟨k1, k2, h, rest, k3, k4, k5⟩
        · refine .inl ⟨k1, by simp [k2], ?_⟩
          simp only [List.nil_append] at k3
          rw [List.flatten_cons, List.append_assoc, ← k3]; simp
        · refine .inr ⟨k1, k2, h, rest, k3, by simp [k4], ?_⟩
          simp only [List.nil_append] at k5
          rw [List.flatten_cons, List.append_assoc, ← k5]; simp
    · refine ⟨[], by simp, .inr ?_⟩
      rw [feed_cons hn, feed_closed h1, h3]
      exact ⟨h1, h2, h, s.kept ++ c :: r, hv, rfl, by simp⟩

/-- few: how the bytes are counted. -/
def fewL : Int → List Nat → Bool
  | _, [] => true
  | n, l :: r => if 1500 < n + min (l : Int) 2000 then false else fewL (n + min (l : Int) 2000) r
def fewB (ls : List Nat) : Bool := fewL 0 ls && decide ((ls.length : Int) ≤ 60)
theorem fewL_sum : ∀ (ls : List Nat) (n : Int), fewL n ls = true → 0 ≤ n → n ≤ 1500 → n + (ls.sum : Int) ≤ 1500
  | [], n, _, _, h => by simp; exact h
  | l :: r, n, h, hn, h0 => by
    unfold fewL at h
    split at h
    · cases h
    · rename_i hl
      have := fewL_sum r _ h (by omega) (by omega)
      simp only [List.sum_cons]
      omega
theorem fewB_sum {ls : List Nat} (h : fewB ls = true) : ls.sum ≤ 1500 ∧ ls.length ≤ 60 := by
  unfold fewB at h
  simp only [Bool.and_eq_true, decide_eq_true_eq] at h
  have := fewL_sum ls 0 h.1 (by omega) (by omega)
  omega

theorem few_no {ls r : List Nat} {z : Int} {l j : Nat} (h : fewL 0 ls = fewL z (ls.drop j)) (hd : ls.drop j = l :: r) (hl : 1500 < z + min (l : Int) 2000) : fewB ls = false := by
  unfold fewB
  rw [h, hd]
  unfold fewL
  rw [if_pos hl]; rfl
theorem few_yes {r : List Nat} {z : Int} {l : Nat} (h1 : (l : Int) ≤ 2000) (hl : z + l ≤ 1500) : fewL z (l :: r) = fewL (z + l) r := by
  conv => lhs; unfold fewL
  rw [Int.min_eq_left h1, if_neg (by omega)]

set_option maxRecDepth 100000 in
set_option maxHeartbeats 4000000 in
theorem few_any (w : World) (A : Option Addr) (c : Nat) (ls : List Nat) (k : Nat) (hk : k = ls.length) (hcells : 0 < k → ∃ g o, A = some ⟨g, o, none⟩ ∧ g < w.heap.size ∧ ∀ j, j < k → ∃ B cc, w.cell? ⟨g, o + j, none⟩ = some (.slice B (ls.getD j 0) cc)) (hk63 : (k : Int) ≤ 9223372036854775807) :
    Calls Try.prog 34 #[.slice A k c] w (RB (fewB ls) w) := by
  have HK := Lib.hid hk
  have HC := Lib.hid hcells
  clear hk hcells
  go_enter Try.func34, Try.ntmps34
  go_wp2_with fail
  go_loopw [3, 8] (fun n i wr => ∃ (j : Nat) (z : Int), j ≤ k ∧ i = .int .i64 j ∧ n = .int .i64 z ∧ 0 ≤ z ∧ z ≤ 1500 ∧ fewL 0 ls = fewL z (ls.drop j) ∧ Below w.heap.size w wr) (fun _ i _ => k - (intOf i).toNat)
  case atStart => exact ⟨0, 0, by omega, rfl, rfl, by omega, by omega, rfl, Below.refl _ _⟩
  case round =>
    obtain ⟨j, z, hj, rfl, rfl, hz0, hz1, hF, hb⟩ := hrel
    have HF := Lib.hid hF
    have HB := Lib.hid hb
    clear hF hb
    by_cases hlt : j < k
    · have jn : (j : Int) < k := by omega
      obtain ⟨g, o, rfl, hg, hc⟩ := HC.out (by omega)
      obtain ⟨B, cc, hcell⟩ := hc j hlt
      obtain ⟨l, hl⟩ : ∃ l, l = ls.getD j 0 := ⟨_, rfl⟩
      rw [← hl] at hcell
      have cb : wr.cell? ⟨g, o + j, none⟩ = some (.slice B l cc) := by rw [HB.out.cell hg]; exact hcell
      have HL := Lib.hid hl
      have hd : ls.drop j = l :: ls.drop (j + 1) := by
        have hjl : j < ls.length := by have := HK.out; omega
        rw [List.drop_eq_getElem_cons hjl, hl]
        simp [List.getD_eq_getElem?_getD, hjl]
      have HD := Lib.hid hd
      clear hg hc hcell hl hd
      go_wp2_with fail
      all_goals first
        | (go_ret
           exact rb_eq ⟨rfl, HB.out⟩ (few_no HF.out HD.out (by omega)))
        | (go_round
           case rel => exact ⟨j + 1, z + l, by omega, by go_num, by go_num, by omega, by omega, by rw [HF.out, HD.out]; exact few_yes (by omega) (by omega), HB.out⟩
           case measure => simp [intOf]; omega)
    · have jn : ¬ (j : Int) < k := by omega
      go_wp2_with fail
      go_ret
      refine ⟨?_, HB.out⟩
      have : fewL 0 ls = true := by rw [HF.out, List.drop_of_length_le (by have := HK.out; omega)]; rfl
      unfold fewB
      rw [this, ← HK.out]
      simp

end Go.Proofs.Ytdiiolbkjmhmdaa
