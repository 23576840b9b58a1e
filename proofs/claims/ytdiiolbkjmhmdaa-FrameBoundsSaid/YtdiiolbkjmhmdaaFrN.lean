/- The chapter's example of the framer; few. -/
import Derived.Test.YtdiiolbkjmhmdaaFrJ
import Derived.Test.YtdiiolbkjmhmdaaHdK
namespace Go.Proofs.Ytdiiolbkjmhmdaa
open Go.RowKit
set_option linter.unusedSimpArgs false
set_option linter.unusedVariables false

theorem stop_hereN {p : Prop} (h : Hid p) : p := h
theorem alive_feed : feed false newSt aliveL = (⟨[], 19, false, 1⟩, [evF aliveL]) := by kernel_rfl
theorem feed_snoc (b : Bool) (s : St) (xs : List Int) (x : Int) : feed b s (xs ++ [x]) = ((feed b (feed b s xs).1 [x]).1, (feed b s xs).2 ++ (feed b (feed b s xs).1 [x]).2) := feed_append b xs s [x]
theorem aliveL_at {j : Nat} (h : j < 19) : aliveL.take (j + 1) = aliveL.take j ++ [aliveL.getD j 0] := split_at (by rw [show aliveL.length = 19 from rfl]; exact h)
theorem aliveL_byte {j : Nat} : 0 ≤ aliveL.getD j 0 ∧ aliveL.getD j 0 ≤ 255 := by
  by_cases h : j < 19
  · have : ∀ i : Fin 19, 0 ≤ aliveL.getD i.1 0 ∧ aliveL.getD i.1 0 ≤ 255 := by decide
    exact this ⟨j, h⟩
  · rw [List.getD_eq_getElem?_getD, List.getElem?_eq_none (by rw [show aliveL.length = 19 from rfl]; omega)]; simp

set_option maxRecDepth 100000 in
set_option maxHeartbeats 4000000 in
theorem aliveF_any (w : World) : Calls Try.prog 29 #[] w (RB true w) := by
  have CW := Lib.hid (wrap_ok none 0 0 [] (by simp [maxB]) 4 false false false false false false (leastK 4) (limitK false 4) 19 rfl (by decide) (by decide) (by decide) (by decide) ⟨by omega, by omega⟩ (Lib.hid (least_any 4)) (Lib.hid (limit_any false false false false false false 4)))
  go_enter Try.func29, Try.ntmps29
  go_wp2_with fail
  refine (CW.out _ (RdB.nil _ none 0 ⟨by omega, fun _ => rfl⟩)).mono ?_
  rintro r w1 ⟨A, c, rfl, ho, hb⟩
  rw [aliveL_eq] at ho ⊢
  have hr := RdB.own ho (by intro x hx; simp [aliveL] at hx; omega) (by simp [aliveL, maxB])
  have el : aliveL.length = 19 := rfl
  rw [el] at hr ⊢
  have HR := Lib.hid hr
  have HB := Lib.hid hb
  clear ho hb hr el CW
  go_wp2_with fail
  refine (new_fr false false false false false false w1).mono ?_
  rintro r w2 ⟨g, rfl, hg, hb2, hF⟩
  have HF := Lib.hid hF
  have HG := Lib.hid hg
  have HGW := Lib.hid hF.glt
  have HB2 := Lib.hid hb2
  clear hF hg hb2
  go_wp2_with fail
  go_loopw [4, 16] (fun n i wr => ∃ (j : Nat) (K : Option Nat) (v : Value), j ≤ 19 ∧ i = .int .i64 j ∧ n = .int .i64 ((feed false newSt (aliveL.take j)).2.length : Nat) ∧ Fr wr g K v (feed false newSt (aliveL.take j)).1 false false false false false false ∧ Ch g none w2 wr ∧ Nx w2 none K ∧ RdB wr (.slice A 19 c) aliveL ∧ Av g K A 19) (fun _ i _ => 19 - (intOf i).toNat)
  case atStart => exact ⟨0, none, _, by omega, rfl, rfl, HF.out, Ch.refl _ _ _, Nx.refl _ _, HR.out.below HB2.out, fun hp a ha => ⟨by
    obtain ⟨g1, o1, e1, hlt⟩ := HR.out.lt hp
    rw [e1] at ha; injection ha with ha; rw [← ha]
    have := HG.out; show g1 ≠ g; omega, nofun⟩⟩
  case round =>
    obtain ⟨j, K, v, hj, rfl, rfl, hF, hch, hnx, hrd, hav⟩ := hrel
    obtain ⟨s, hs⟩ : ∃ s, s = (feed false newSt (aliveL.take j)).1 := ⟨_, rfl⟩
    obtain ⟨q, hq⟩ : ∃ q, q = (feed false newSt (aliveL.take j)).2.length := ⟨_, rfl⟩
    have hcnt := feed_count false (aliveL.take j) newSt
    rw [← hs] at hF hcnt
    rw [← hq] at hcnt ⊢
    have hcl : (feed false newSt (aliveL.take j)).2.countP (fun e => decide (e.va = 0)) ≤ q := by rw [hq]; exact List.countP_le_length
    have hq19 : q ≤ 19 := by have := hcnt.2; rw [List.length_take] at this; omega
    have HQ19 := Lib.hid hq19
    have HFR := Lib.hid (show 0 ≤ s.frames ∧ s.frames ≤ 19 by have := hcnt.1; have h0 : newSt.frames = 0 := rfl; omega)
    have HF := Lib.hid hF
    have HCH := Lib.hid hch
    have HNX := Lib.hid hnx
    have HRD := Lib.hid hrd
    have HAV := Lib.hid hav
    have HS := Lib.hid hs
    have HQ := Lib.hid hq
    clear hF hch hnx hrd hav hs hq hcnt hcl hq19
    by_cases hlt : j < 19
    · have jn : (j : Int) < 19 := by omega
      obtain ⟨gb, ob, eA, hgb, hcb⟩ : ∃ g o, A = some ⟨g, o, none⟩ ∧ g < wr.heap.size ∧ ∀ j, j < 19 → wr.cell? ⟨g, o + j, none⟩ = some (.int .u8 (aliveL.getD j 0)) := by
        obtain ⟨h1, h2, A', c', e, h3, h4, h5⟩ := HRD.out
        injection e with e1 e2 e3
        subst e1
        exact h5 (by rw [show aliveL.length = 19 from rfl]; omega)
      subst eA
      obtain ⟨x, hx⟩ : ∃ x, x = aliveL.getD j 0 := ⟨_, rfl⟩
      have cb := hcb j hlt
      rw [← hx] at cb
      have hxb : 0 ≤ x ∧ x ≤ 255 := by rw [hx]; exact aliveL_byte
      have hone := RdB.one wr _ x hxb rfl
      have hFA := HF.out.below (below_alloc (Below.refl _ _) (.cells #[.int .u8 x] 5))
      have HFEED := Lib.hid (feed_any hFA (some ⟨wr.heap.size, 0, none⟩) 1 1 [x] hone (fun hp a ha => ⟨by injection ha with ha; rw [← ha]; have := HF.out.glt; show wr.heap.size ≠ g; omega, fun e => by injection ha with ha; rw [← ha] at e; have := HF.out.lt _ e.symm; simp at this⟩) (by have := HFR.out; simp; omega) (HNX.out.gt nofun HGW.out))
      have HX := Lib.hid hx
      clear hcb hgb hx hxb hone hFA
      go_wp2_with fail
      refine HFEED.out.mono ?_
      rintro r w3 ⟨vE, v3, K3, rfl, hE3, hF3, hch3, hnx3⟩
      obtain ⟨AE, cE, rfl⟩ := hE3.form
      obtain ⟨q2, hq2⟩ : ∃ q2, q2 = (feed false s [x]).2.length := ⟨_, rfl⟩
      rw [← hq2]
      have hq21 : q2 ≤ 1 := by rw [hq2]; exact (feed_count false [x] s).2
      have hwq : IntKind.i64.wrap ((q : Int) + q2) = q + q2 := by rw [IntKind.wrap_i64]; have := HQ19.out; omega
      have HF3 := Lib.hid hF3
      have HCH3 := Lib.hid hch3
      have HNX3 := Lib.hid hnx3
      have HQ2 := Lib.hid hq2
      clear hE3 hF3 hch3 hnx3 hq2 hq21 HFEED
      go_wp2_with fail
      go_round
      case rel =>
        have hsn := feed_snoc false newSt (aliveL.take j) (aliveL.getD j 0)
        rw [← aliveL_at hlt, ← HX.out, ← HS.out] at hsn
        have hca : Ch g K wr w3 := (Ch.of (below_alloc (Below.refl _ _) _)).trans HCH3.out (Nx.refl _ _)
        have hnxa : Nx wr K K3 := by
          rcases HNX3.out with h | h | ⟨k, h, hk⟩
          · exact .inl h
          · exact .inr (.inl h)
          · exact .inr (.inr ⟨k, h, by simp at hk; omega⟩)
        refine ⟨j + 1, K3, v3, by omega, by go_num, ?_, ?_, HCH.out.trans hca HNX.out, HNX.out.trans hnxa HCH.out.size, HRD.out.ch HAV.out hca, HAV.out.nx HRD.out hnxa⟩
        · rw [hsn, List.length_append, ← HQ.out, ← HQ2.out]; simp
        · rw [hsn]; exact HF3.out
      case measure => simp [intOf]; omega
    · have jn : ¬ (j : Int) < 19 := by omega
      have ej : j = 19 := by omega
      subst ej
      have hfin : feed false newSt (aliveL.take 19) = (⟨[], 19, false, 1⟩, [evF aliveL]) := alive_feed
      have hs0 := HS.out
      have hq0 := HQ.out
      rw [hfin] at hs0 hq0
      subst hs0
      obtain rfl : q = 1 := hq0
      have HFR2 := Lib.hid (fun W (hb : Below wr.heap.size wr W) => frames_any (HF.out.below hb))
      have HHE2 := Lib.hid (fun W (hb : Below wr.heap.size wr W) => held_any (HF.out.below hb))
      clear hfin
      go_wp2_with fail
      refine (HFR2.out _ (Below.refl _ _)).mono ?_
      rintro r w3 ⟨rfl, hb3⟩
      have HB3 := Lib.hid hb3
      clear hb3
      go_wp2_with fail
      refine (HHE2.out _ HB3.out).mono ?_
      rintro r w4 ⟨rfl, hb4⟩
      have HB4 := Lib.hid hb4
      clear hb4
      go_wp2_with fail
      go_ret
      refine ⟨rfl, ?_⟩
      have hb12 : Below w.heap.size w w2 := below_then' HB.out HB2.out
      have hN : w2.heap.size ≤ wr.heap.size := HCH.out.size
      have hwr : Below w.heap.size w wr := hb12.trans (HCH.out.bel hb12.size (by have := HG.out; have := HB.out.size; omega) (fun k hk => by cases hk))
      exact below_then' hwr (below_then' HB3.out HB4.out)

end Go.Proofs.Ytdiiolbkjmhmdaa
