/- Parse answers as the reference's Parse. -/
import Derived.Test.YtdiiolbkjmhmdaaHdQ
import Derived.Test.YtdiiolbkjmhmdaaHdR
import Derived.Test.YtdiiolbkjmhmdaaHdS
namespace Go.Proofs.Ytdiiolbkjmhmdaa
open Go.RowKit
set_option linter.unusedSimpArgs false
set_option linter.unusedVariables false

theorem getD_take (xs : List Int) {q j : Nat} (h : j < q) : (xs.take q).getD j 0 = xs.getD j 0 := by
  simp [List.getD_eq_getElem?_getD, List.getElem?_take, h]
theorem markI_some {xs : List Int} {q p : Nat} (hq : p < q) (hp : p < xs.length) (hlow : ∀ j, j < p → xs.getD j 0 = 255) (hat : ¬ xs.getD p 0 = 255) : markI (xs.take q) = p := by
  unfold markI
  rw [mark_some (k := p) (by rw [List.length_take]; omega) (fun j hj => by rw [getD_take xs (by omega)]; exact hlow j hj) (by rw [getD_take xs hq]; exact hat)]
theorem markI_none {xs : List Int} {q : Nat} (h : ∀ j, j < q → j < xs.length → xs.getD j 0 = 255) : markI (xs.take q) = -1 := by
  unfold markI
  rw [mark_none (fun j hj => by rw [List.length_take] at hj; rw [getD_take xs (by omega)]; exact h j (by omega) (by omega))]
theorem first_bad (P : Nat → Prop) (N : Nat) : (∃ p, p < N ∧ ¬ P p ∧ ∀ j, j < p → P j) ∨ (∀ j, j < N → P j) := by
  induction N with
  | zero => exact .inr fun j hj => absurd hj (by omega)
  | succ N ih =>
    rcases ih with ⟨p, h1, h2, h3⟩ | h
    · exact .inl ⟨p, by omega, h2, h3⟩
    · by_cases hN : P N
      · exact .inr fun j hj => by
          by_cases e : j = N
          · rw [e]; exact hN
          · exact h j (by omega)
      · exact .inl ⟨N, by omega, hN, h⟩

theorem both_parse (w0 : World) (A : Option Addr) (m cap : Nat) (xs : List Int) (hr0 : RdB w0 (.slice A m cap) xs) (a b c d e f : Bool) : ∃ n k va vb vc ve ds,
    (∀ w, RdB w (.slice A m cap) xs → Calls Try.prog 22 #[.agg #[.bool a, .bool b, .bool c, .bool d, .bool e, .bool f], .slice A m cap] w (PP n k va vb vc ve ds w)) ∧
    (∀ w, RdB w (.slice A m cap) xs → Calls Try.prog 23 #[.agg #[.bool a, .bool b, .bool c, .bool d, .bool e, .bool f], .slice A m cap] w (RfP n k va vb vc ve ds w)) := by
  have hml := hr0.len.1
  rcases first_bad (fun j => xs.getD j 0 = 255) (min 16 m) with ⟨p, h1, h2, h3⟩ | hall
  · refine ⟨0, 0, 4, 1, 1, p, [], fun w hr => ?_, fun w hr => ref_mark w A m cap xs hr a b c d e f p (by omega) (by omega) h3 h2⟩
    by_cases h16 : m ≤ 16
    · exact parse_markX w A m cap xs hr h16 a b c d e f p (by omega) (markI_some (by omega) (by omega) h3 h2)
    · exact parse_markY w A m cap xs hr h16 a b c d e f p (by omega) (markI_some (by omega) (by omega) h3 h2)
  · have hno : ∀ q, q ≤ 16 → markI (xs.take q) = -1 := fun q hq => markI_none fun j hj hj2 => hall j (by omega)
    by_cases h19 : m < 19
    · refine ⟨0, 0, 4, 1, 2, m, [], fun w hr => ?_, fun w hr => ref_short w A m cap xs hr a b c d e f (fun j hj hj2 => hall j (by omega)) h19⟩
      by_cases h16 : m ≤ 16
      · exact parse_shortX w A m cap xs hr h16 a b c d e f h19 (hno m h16)
      · exact parse_shortY w A m cap xs hr h16 a b c d e f h19 (hno 16 (by omega))
    · have h19' : 19 ≤ m := by omega
      have hlow : ∀ j, j < 16 → xs.getD j 0 = 255 := fun j hj => hall j (by omega)
      obtain ⟨x16, h16⟩ : ∃ x, x = xs.getD 16 0 := ⟨_, rfl⟩
      obtain ⟨x17, h17⟩ : ∃ x, x = xs.getD 17 0 := ⟨_, rfl⟩
      obtain ⟨k, hk⟩ : ∃ x, x = xs.getD 18 0 := ⟨_, rfl⟩
      obtain ⟨n, hn⟩ : ∃ x, x = x16 * 256 + x17 := ⟨_, rfl⟩
      obtain ⟨M, hM⟩ : ∃ x, mostK b = x := ⟨_, rfl⟩
      obtain ⟨l, hl⟩ : ∃ x, leastK k = x := ⟨_, rfl⟩
      obtain ⟨L, hL⟩ : ∃ x, limitK b k = x := ⟨_, rfl⟩
      have h11 := hno 16 (by omega)
      by_cases c1 : n < 19
      · refine ⟨0, 0, 4, 1, 2, 16, [x16, x17], fun w hr => parse_l1a w A m cap xs hr h19' a b c d e f h11 n k x16 x17 h16 h17 hn hk M hM l L hl hL c1, fun w hr => ?_⟩
        cases b
        · exact ref_l1aF w A m cap xs hr a c d e f h19' hlow n k x16 x17 h16 h17 hn hk l L hl hL c1
        · exact ref_l1aT w A m cap xs hr a c d e f h19' hlow n k x16 x17 h16 h17 hn hk l L hl hL c1
      · by_cases c2 : M < n
        · refine ⟨0, 0, 4, 1, 2, 16, [x16, x17], fun w hr => parse_l1b w A m cap xs hr h19' a b c d e f h11 n k x16 x17 h16 h17 hn hk M hM l L hl hL c1 c2, fun w hr => ?_⟩
          cases b
          · exact ref_l1bF w A m cap xs hr a c d e f h19' hlow n k x16 x17 h16 h17 hn hk l L hl hL c1 (by subst hM; exact c2)
          · exfalso
            have b16 := hr0.get (j := 16) (by omega)
            have b17 := hr0.get (j := 17) (by omega)
            rw [← h16] at b16
            rw [← h17] at b17
            subst hM
            simp [mostK] at c2
            omega
        · by_cases c3 : l = 0
          · refine ⟨0, 0, 4, 1, 3, 18, [k], fun w hr => parse_kind w A m cap xs hr h19' a b c d e f h11 n k x16 x17 h16 h17 hn hk M hM l L hl hL c1 c2 c3, fun w hr => ?_⟩
            cases b
            · exact ref_kindF w A m cap xs hr a c d e f h19' hlow n k x16 x17 h16 h17 hn hk l L hl hL c1 (by subst hM; exact c2) c3
            · exact ref_kindT w A m cap xs hr a c d e f h19' hlow n k x16 x17 h16 h17 hn hk l L hl hL c1 (by subst hM; exact c2) c3
          · by_cases c4 : n < l
            · refine ⟨0, 0, 4, 1, 2, 16, [x16, x17], fun w hr => parse_l2a w A m cap xs hr h19' a b c d e f h11 n k x16 x17 h16 h17 hn hk M hM l L hl hL c1 c2 c3 c4, fun w hr => ?_⟩
              cases b
              · exact ref_l2aF w A m cap xs hr a c d e f h19' hlow n k x16 x17 h16 h17 hn hk l L hl hL c1 (by subst hM; exact c2) c3 c4
              · exact ref_l2aT w A m cap xs hr a c d e f h19' hlow n k x16 x17 h16 h17 hn hk l L hl hL c1 (by subst hM; exact c2) c3 c4
            · by_cases c5 : L < n
              · refine ⟨0, 0, 4, 1, 2, 16, [x16, x17], fun w hr => parse_l2b w A m cap xs hr h19' a b c d e f h11 n k x16 x17 h16 h17 hn hk M hM l L hl hL c1 c2 c3 c4 c5, fun w hr => ?_⟩
                cases b
                · exact ref_l2bF w A m cap xs hr a c d e f h19' hlow n k x16 x17 h16 h17 hn hk l L hl hL c1 (by subst hM; exact c2) c3 c4 c5
                · exact ref_l2bT w A m cap xs hr a c d e f h19' hlow n k x16 x17 h16 h17 hn hk l L hl hL c1 (by subst hM; exact c2) c3 c4 c5
              · refine ⟨n, k, 0, 0, 0, 0, [], fun w hr => parse_ok w A m cap xs hr h19' a b c d e f h11 n k x16 x17 h16 h17 hn hk M hM l L hl hL c1 c2 c3 c4 c5, fun w hr => ?_⟩
                cases b
                · exact ref_okF w A m cap xs hr a c d e f h19' hlow n k x16 x17 h16 h17 hn hk l L hl hL c1 (by subst hM; exact c2) c3 c4 c5
                · exact ref_okT w A m cap xs hr a c d e f h19' hlow n k x16 x17 h16 h17 hn hk l L hl hL c1 (by subst hM; exact c2) c3 c4 c5

end Go.Proofs.Ytdiiolbkjmhmdaa
