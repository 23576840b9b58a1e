/- Parse's answer and the reference's as a function of the option Extended and the bytes. -/
import Derived.Test.YtdiiolbkjmhmdaaHdT
namespace Go.Proofs.Ytdiiolbkjmhmdaa
open Go.RowKit
set_option linter.unusedSimpArgs false
set_option linter.unusedVariables false

structure Ans where
  n : Int
  k : Int
  va : Int
  vb : Int
  vc : Int
  ve : Int
  ds : List Int
/-- What is answered to bytes. -/
def hdr (b : Bool) (xs : List Int) : Ans :=
  match mark (xs.take 16) with
  | some p => ⟨0, 0, 4, 1, 1, p, []⟩
  | none =>
    if xs.length < 19 then ⟨0, 0, 4, 1, 2, xs.length, []⟩
    else if xs.getD 16 0 * 256 + xs.getD 17 0 < 19 then ⟨0, 0, 4, 1, 2, 16, [xs.getD 16 0, xs.getD 17 0]⟩
    else if mostK b < xs.getD 16 0 * 256 + xs.getD 17 0 then ⟨0, 0, 4, 1, 2, 16, [xs.getD 16 0, xs.getD 17 0]⟩
    else if leastK (xs.getD 18 0) = 0 then ⟨0, 0, 4, 1, 3, 18, [xs.getD 18 0]⟩
    else if xs.getD 16 0 * 256 + xs.getD 17 0 < leastK (xs.getD 18 0) then ⟨0, 0, 4, 1, 2, 16, [xs.getD 16 0, xs.getD 17 0]⟩
    else if limitK b (xs.getD 18 0) < xs.getD 16 0 * 256 + xs.getD 17 0 then ⟨0, 0, 4, 1, 2, 16, [xs.getD 16 0, xs.getD 17 0]⟩
    else ⟨xs.getD 16 0 * 256 + xs.getD 17 0, xs.getD 18 0, 0, 0, 0, 0, []⟩
theorem hdr_mark {b : Bool} {xs : List Int} {p : Nat} (h : mark (xs.take 16) = some p) : hdr b xs = ⟨0, 0, 4, 1, 1, p, []⟩ := by unfold hdr; rw [h]
theorem hdr_none {b : Bool} {xs : List Int} (h : mark (xs.take 16) = none) {x16 x17 k n M l L : Int} (h16 : x16 = xs.getD 16 0) (h17 : x17 = xs.getD 17 0) (hk : k = xs.getD 18 0) (hn : n = x16 * 256 + x17) (hM : mostK b = M) (hl : leastK k = l) (hL : limitK b k = L) :
    hdr b xs = if xs.length < 19 then ⟨0, 0, 4, 1, 2, xs.length, []⟩ else if n < 19 then ⟨0, 0, 4, 1, 2, 16, [x16, x17]⟩ else if M < n then ⟨0, 0, 4, 1, 2, 16, [x16, x17]⟩ else if l = 0 then ⟨0, 0, 4, 1, 3, 18, [k]⟩ else if n < l then ⟨0, 0, 4, 1, 2, 16, [x16, x17]⟩ else if L < n then ⟨0, 0, 4, 1, 2, 16, [x16, x17]⟩ else ⟨n, k, 0, 0, 0, 0, []⟩ := by
  subst hM hl hL hn h16 h17 hk
  unfold hdr; rw [h]

theorem parse_hdr (w0 : World) (A : Option Addr) (m cap : Nat) (xs : List Int) (hr0 : RdB w0 (.slice A m cap) xs) (a b c d e f : Bool) :
    (∀ w, RdB w (.slice A m cap) xs → Calls Try.prog 22 #[.agg #[.bool a, .bool b, .bool c, .bool d, .bool e, .bool f], .slice A m cap] w (PP (hdr b xs).n (hdr b xs).k (hdr b xs).va (hdr b xs).vb (hdr b xs).vc (hdr b xs).ve (hdr b xs).ds w)) ∧
    (∀ w, RdB w (.slice A m cap) xs → Calls Try.prog 23 #[.agg #[.bool a, .bool b, .bool c, .bool d, .bool e, .bool f], .slice A m cap] w (RfP (hdr b xs).n (hdr b xs).k (hdr b xs).va (hdr b xs).vb (hdr b xs).vc (hdr b xs).ve (hdr b xs).ds w)) := by
  have hml := hr0.len.1
  rcases first_bad (fun j => xs.getD j 0 = 255) (min 16 m) with ⟨p, h1, h2, h3⟩ | hall
  · rw [hdr_mark (p := p) (mark_some (by rw [List.length_take]; omega) (fun j hj => by rw [getD_take xs (by omega)]; exact h3 j hj) (by rw [getD_take xs (by omega)]; exact h2))]
    refine ⟨fun w hr => ?_, fun w hr => ref_mark w A m cap xs hr a b c d e f p (by omega) (by omega) h3 h2⟩
    by_cases h16 : m ≤ 16
    · exact parse_markX w A m cap xs hr h16 a b c d e f p (by omega) (markI_some (by omega) (by omega) h3 h2)
    · exact parse_markY w A m cap xs hr h16 a b c d e f p (by omega) (markI_some (by omega) (by omega) h3 h2)
  · have hno : ∀ q, q ≤ 16 → markI (xs.take q) = -1 := fun q hq => markI_none fun j hj hj2 => hall j (by omega)
    have hmn : mark (xs.take 16) = none := mark_none fun j hj => by rw [List.length_take] at hj; rw [getD_take xs (by omega)]; exact hall j (by omega)
    by_cases h19 : m < 19
    · rw [hdr_none hmn rfl rfl rfl rfl rfl rfl rfl, if_pos (by omega), ← hml]
      refine ⟨fun w hr => ?_, fun w hr => ref_short w A m cap xs hr a b c d e f (fun j hj hj2 => hall j (by omega)) h19⟩
      by_cases h16 : m ≤ 16
      · exact parse_shortX w A m cap xs hr h16 a b c d e f h19 (hno m h16)
      · exact parse_shortY w A m cap xs hr h16 a b c d e f h19 (hno 16 (by omega))
    · have h19' : 19 ≤ m := by omega
      have hlow : ∀ j, j < 16 → xs.getD j 0 = 255 := fun j hj => hall j (by omega)
      obtain ⟨x16, h16⟩ : ∃ x, x = xs.getD 16 0 := ⟨_, rfl⟩
      obtain ⟨x17, h17⟩ : ∃ x, x = xs.getD 17 0 := ⟨_, rfl⟩
      obtain ⟨k, hk⟩ : ∃ x, x = xs.getD 18 0 := ⟨_, rfl⟩
      obtain ⟨n, hn⟩ : ∃ x, x = x16 * 256 + x17 := ⟨_, rfl⟩
      obtain ⟨M, hM⟩ : ∃ x, mostK b = x := ⟨_, rfl⟩
      obtain ⟨l, hl⟩ : ∃ x, leastK k = x := ⟨_, rfl⟩
      obtain ⟨L, hL⟩ : ∃ x, limitK b k = x := ⟨_, rfl⟩
      have h11 := hno 16 (by omega)
      by_cases c1 : n < 19
      · rw [hdr_none hmn h16 h17 hk hn hM hl hL, if_neg (by omega), if_pos c1]
        refine ⟨fun w hr => parse_l1a w A m cap xs hr h19' a b c d e f h11 n k x16 x17 h16 h17 hn hk M hM l L hl hL c1, fun w hr => ?_⟩
        cases b
        · exact ref_l1aF w A m cap xs hr a c d e f h19' hlow n k x16 x17 h16 h17 hn hk l L hl hL c1
        · exact ref_l1aT w A m cap xs hr a c d e f h19' hlow n k x16 x17 h16 h17 hn hk l L hl hL c1
      · by_cases c2 : M < n
        · rw [hdr_none hmn h16 h17 hk hn hM hl hL, if_neg (by omega), if_neg c1, if_pos c2]
          refine ⟨fun w hr => parse_l1b w A m cap xs hr h19' a b c d e f h11 n k x16 x17 h16 h17 hn hk M hM l L hl hL c1 c2, fun w hr => ?_⟩
          cases b
          · exact ref_l1bF w A m cap xs hr a c d e f h19' hlow n k x16 x17 h16 h17 hn hk l L hl hL c1 (by subst hM; exact c2)
          · exfalso
            have b16 := hr0.get (j := 16) (by omega)
            have b17 := hr0.get (j := 17) (by omega)
            rw [← h16] at b16
            rw [← h17] at b17
            subst hM
            simp [mostK] at c2
            omega
        · by_cases c3 : l = 0
          · rw [hdr_none hmn h16 h17 hk hn hM hl hL, if_neg (by omega), if_neg c1, if_neg c2, if_pos c3]
            refine ⟨fun w hr => parse_kind w A m cap xs hr h19' a b c d e f h11 n k x16 x17 h16 h17 hn hk M hM l L hl hL c1 c2 c3, fun w hr => ?_⟩
            cases b
            · exact ref_kindF w A m cap xs hr a c d e f h19' hlow n k x16 x17 h16 h17 hn hk l L hl hL c1 (by subst hM; exact c2) c3
            · exact ref_kindT w A m cap xs hr a c d e f h19' hlow n k x16 x17 h16 h17 hn hk l L hl hL c1 (by subst hM; exact c2) c3
          · by_cases c4 : n < l
            · rw [hdr_none hmn h16 h17 hk hn hM hl hL, if_neg (by omega), if_neg c1, if_neg c2, if_neg c3, if_pos c4]
              refine ⟨fun w hr => parse_l2a w A m cap xs hr h19' a b c d e f h11 n k x16 x17 h16 h17 hn hk M hM l L hl hL c1 c2 c3 c4, fun w hr => ?_⟩
              cases b
              · exact ref_l2aF w A m cap xs hr a c d e f h19' hlow n k x16 x17 h16 h17 hn hk l L hl hL c1 (by subst hM; exact c2) c3 c4
              · exact ref_l2aT w A m cap xs hr a c d e f h19' hlow n k x16 x17 h16 h17 hn hk l L hl hL c1 (by subst hM; exact c2) c3 c4
            · by_cases c5 : L < n
              · rw [hdr_none hmn h16 h17 hk hn hM hl hL, if_neg (by omega), if_neg c1, if_neg c2, if_neg c3, if_neg c4, if_pos c5]
                refine ⟨fun w hr => parse_l2b w A m cap xs hr h19' a b c d e f h11 n k x16 x17 h16 h17 hn hk M hM l L hl hL c1 c2 c3 c4 c5, fun w hr => ?_⟩
                cases b
                · exact ref_l2bF w A m cap xs hr a c d e f h19' hlow n k x16 x17 h16 h17 hn hk l L hl hL c1 (by subst hM; exact c2) c3 c4 c5
                · exact ref_l2bT w A m cap xs hr a c d e f h19' hlow n k x16 x17 h16 h17 hn hk l L hl hL c1 (by subst hM; exact c2) c3 c4 c5
              · rw [hdr_none hmn h16 h17 hk hn hM hl hL, if_neg (by omega), if_neg c1, if_neg c2, if_neg c3, if_neg c4, if_neg c5]
                refine ⟨fun w hr => parse_ok w A m cap xs hr h19' a b c d e f h11 n k x16 x17 h16 h17 hn hk M hM l L hl hL c1 c2 c3 c4 c5, fun w hr => ?_⟩
                cases b
                · exact ref_okF w A m cap xs hr a c d e f h19' hlow n k x16 x17 h16 h17 hn hk l L hl hL c1 (by subst hM; exact c2) c3 c4 c5
                · exact ref_okT w A m cap xs hr a c d e f h19' hlow n k x16 x17 h16 h17 hn hk l L hl hL c1 (by subst hM; exact c2) c3 c4 c5


theorem hdr_ext (xs : List Int) : (hdr false xs).va = 0 → hdr true xs = hdr false xs := by
  intro h
  cases hm : mark (xs.take 16) with
  | some p => rw [hdr_mark hm, hdr_mark hm]
  | none =>
    rw [hdr_none hm rfl rfl rfl rfl rfl rfl rfl] at h ⊢
    rw [hdr_none hm rfl rfl rfl rfl rfl rfl rfl]
    have h1 : mostK false = 4096 := rfl
    have h2 : mostK true = 65535 := rfl
    have h3 : limitK false (xs.getD 18 0) ≤ limitK true (xs.getD 18 0) := by unfold limitK; simp; omega
    by_cases c0 : xs.length < 19
    · rw [if_pos c0] at h; simp at h
    rw [if_neg c0] at h
    by_cases c1 : xs.getD 16 0 * 256 + xs.getD 17 0 < 19
    · rw [if_pos c1] at h; simp at h
    rw [if_neg c1] at h
    by_cases c2 : mostK false < xs.getD 16 0 * 256 + xs.getD 17 0
    · rw [if_pos c2] at h; simp at h
    rw [if_neg c2] at h
    by_cases c3 : leastK (xs.getD 18 0) = 0
    · rw [if_pos c3] at h; simp at h
    rw [if_neg c3] at h
    by_cases c4 : xs.getD 16 0 * 256 + xs.getD 17 0 < leastK (xs.getD 18 0)
    · rw [if_pos c4] at h; simp at h
    rw [if_neg c4] at h
    by_cases c5 : limitK false (xs.getD 18 0) < xs.getD 16 0 * 256 + xs.getD 17 0
    · rw [if_pos c5] at h; simp at h
    rw [if_neg c0, if_neg c1, if_neg (by omega), if_neg c3, if_neg c4, if_neg (by omega), if_neg c0, if_neg c1, if_neg c2, if_neg c3, if_neg c4, if_neg c5]

end Go.Proofs.Ytdiiolbkjmhmdaa
