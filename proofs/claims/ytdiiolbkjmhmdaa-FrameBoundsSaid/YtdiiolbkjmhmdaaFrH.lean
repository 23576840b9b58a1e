/- The framer's step. -/
import Derived.Test.YtdiiolbkjmhmdaaFrQ
namespace Go.Proofs.Ytdiiolbkjmhmdaa
open Go.RowKit
set_option linter.unusedSimpArgs false
set_option linter.unusedVariables false

set_option maxRecDepth 100000 in
set_option maxHeartbeats 8000000 in
theorem step_any {g : Nat} {K : Option Nat} {v : Value} {s : St} {a b c d e f : Bool} {w : World} (h : Fr w g K v s a b c d e f) (hs : s.closed = false) (hfr : 0 ≤ s.frames ∧ s.frames ≤ 4611686018427387904)
    (gm om m cm : Nat) (bs : List Int) (hr : RdB w (.slice (some ⟨gm, om, none⟩) m cm) bs) (hav : Av g K (some ⟨gm, om, none⟩) m) (hm : 0 < m) (hKg : ∀ k, K = some k → g < k) :
    Calls Try.prog 55 #[.pointer (some ⟨g, 0, none⟩), .slice (some ⟨gm, om, none⟩) m cm] w (StepP b g K s a b c d e f bs w) := by
  have HKG := Lib.hid hKg
  clear hKg
  obtain ⟨A, c0, rfl⟩ := h.form
  have k1 : w.cell? ⟨g, 1, none⟩ = some (.int .i64 s.want) := (h.cs.2 1 (by omega)).1
  obtain ⟨n, hn⟩ : ∃ n, n = s.kept.length := ⟨_, rfl⟩
  obtain ⟨L, hL⟩ : ∃ L, L = s.want := ⟨_, rfl⟩
  rw [← hL] at k1
  have HL := Lib.hid hL
  have HN := Lib.hid hn
  have HFR := Lib.hid hfr
  have HS := Lib.hid hs
  have HH := Lib.hid h
  have HR := Lib.hid hr
  have HAV := Lib.hid hav
  have HM := Lib.hid hm
  clear hL hn hfr hs h hr hav hm
  go_enter Try.func55, Try.ntmps55
  go_upto_if 13 with fail
  go_cut [1] (fun s1 wx => MidP b g K s a b c d e f bs w s1 wx)
  case first =>
    by_cases h19 : 19 ≤ s.kept.length
    · have hw : L = s.len := by rw [HL.out]; unfold St.want; rw [if_neg (by omega)]
      have hlong := HH.out.ok.long h19
      have hne0 : (L == 0) = false := by simp; omega
      have HW := Lib.hid hw
      have HLO := Lib.hid hlong
      have H19 := Lib.hid h19
      clear hw hlong h19
      go_wp2_with fail
      go_meet
      case rel =>
        have h19 := H19.out
        have hlo := HLO.out
        have hml := HR.out.len
        refine ⟨gm, om, m, cm, bs, s.kept, A, c0, K, s.len, rfl, HR.out, HAV.out, HH.out.cs, HH.out.own, HH.out.blk, HH.out.ne, Ch.refl _ _ _, Nx.refl _ _, HH.out.ok.bytes, h19, by omega, hlo.2, fun k hk => ?_⟩
        have := good_body (b := b) HH.out.ok (by simp [HS.out]) HR.out.1 h19 (k := k) (bs := bs) (by rw [hk, hml.1]) (by have := HM.out; omega)
        exact this
    · have hw : L = 0 := by rw [HL.out]; unfold St.want; rw [if_pos (by omega)]
      have hne0 : (L == 0) = true := by simp [hw]
      have HLT := Lib.hid (show n < 19 by have := HN.out; omega)
      obtain ⟨D, hD⟩ : ∃ D : Nat, (19 : Int) - n = D := ⟨(19 - n), by have := HLT.out; omega⟩
      obtain ⟨k, hk⟩ : ∃ k, k = min D m := ⟨_, rfl⟩
      have hml := HR.out.len
      have hcs := HH.out.cs
      have hown := HH.out.own
      have hblk := HH.out.blk
      rw [← HN.out] at hcs hown hblk
      obtain ⟨V, hV⟩ : ∃ V, V = frV (.slice A n c0) s a b c d e f := ⟨_, rfl⟩
      have hV0 : V 0 = .slice A n c0 := by rw [hV]; rfl
      rw [← hV] at hcs
      have hfill := Lib.hid (fill_walk g K V s.kept A n c0 19 D k gm om m cm bs w hcs hV0 hown hblk HH.out.ne HR.out (by have := HLT.out; omega) hD (by omega) (by omega) (by omega) (by omega))
      have HV := Lib.hid hV
      have HKM := Lib.hid (show k ≤ m by omega)
      have HK1 := Lib.hid (show k = min (19 - n) m by omega)
      have HLW := Lib.hid hw
      clear hw h19 hD hk hml hcs hown hblk hV hV0
      go_wp2_with fail
      refine hfill.out.mono ?_
      rintro r w1 ⟨A1, c1, om1, K1, rfl, hx1⟩
      obtain ⟨ho1, hC1, how1, hb1, hn1, hch1⟩ := hx1
      have hrest := RdB.rest HR.out HAV.out hch1 hn1 HKM.out ho1
      obtain ⟨N1, hN1⟩ : ∃ N1, N1 = n + k := ⟨_, rfl⟩
      rw [← hN1] at hC1 how1 hb1
      have e1 : N1 = (s.kept ++ bs.take k).length := by
        have := HR.out.len.1
        have := HKM.out
        have := HN.out
        rw [List.length_append, List.length_take]; omega
      have hby1 : ∀ x ∈ s.kept ++ bs.take k, 0 ≤ x ∧ x ≤ 255 := fun x hx => by
        rcases List.mem_append.1 hx with hx | hx
        · exact HH.out.ok.bytes x hx
        · exact HR.out.1 x (List.mem_of_mem_take hx)
      have hN19 : N1 ≤ 19 := by have := HK1.out; have := HLT.out; omega
      obtain ⟨A1', c1', e4, hr1, -, -⟩ := own_mid (g := g) how1 e1 hby1 (by rw [← e1]; unfold maxB; omega) (by rw [hb1]; exact hn1.neg HH.out.glt HH.out.ne)
      injection e4 with e5 e6 e7
      subst e5 e7
      have HPC := Lib.hid (fun (W : World) (hW : Below w1.heap.size w1 W) => parse_fresh w1 A1 N1 c1 _ hr1 a b c d e f W (hr1.below hW))
      obtain ⟨an, han⟩ : ∃ an, an = hdr b (s.kept ++ bs.take k) := ⟨_, rfl⟩
      rw [← han] at HPC
      have k0 : w1.cell? ⟨g, 0, none⟩ = some (.slice A1 N1 c1) := (hC1.2 0 (by omega)).1
      have kk : ∀ j, 0 < j → j < 13 → w1.cell? ⟨g, j, none⟩ = some (frV (.slice A n c0) s a b c d e f j) := fun j h0 hj => by
        rw [(hC1.2 j hj).1]; unfold set0; rw [if_neg (by omega), HV.out]
      have k2 : w1.cell? ⟨g, 2, none⟩ = some (.bool a) := kk 2 (by omega) (by omega)
      have k3 : w1.cell? ⟨g, 3, none⟩ = some (.bool b) := kk 3 (by omega) (by omega)
      have k4 : w1.cell? ⟨g, 4, none⟩ = some (.bool c) := kk 4 (by omega) (by omega)
      have k5 : w1.cell? ⟨g, 5, none⟩ = some (.bool d) := kk 5 (by omega) (by omega)
      have k6 : w1.cell? ⟨g, 6, none⟩ = some (.bool e) := kk 6 (by omega) (by omega)
      have k7 : w1.cell? ⟨g, 7, none⟩ = some (.bool f) := kk 7 (by omega) (by omega)
      have HC1 := Lib.hid hC1
      have HOW1 := Lib.hid how1
      have HBK1 := Lib.hid hb1
      have HNX1 := Lib.hid hn1
      have HCH1 := Lib.hid hch1
      have HREST := Lib.hid hrest
      have HN1 := Lib.hid hN1
      have HE1 := Lib.hid e1
      have HBY1 := Lib.hid hby1
      have HN19 := Lib.hid hN19
      have HAN := Lib.hid han
      clear ho1 hC1 how1 hb1 hn1 hch1 hrest hN1 e1 hby1 hr1 e6 han kk hfill k1 hN19
      go_upto_region 3 with fail
      go_cut [6, 7] (fun s6 s7 wx => HvP w1 an.n an.k an.va an.vb an.vc an.ve an.ds s6 s7 wx)
      case first =>
        have HS0 := Lib.hid (show HvS w1 g (.slice A1 N1 c1) a b c d e f w1 from ⟨Below.refl _ _, k0, k2, k3, k4, k5, k6, k7⟩)
        have HGL := Lib.hid (show g < w1.heap.size from HC1.out.1)
        clear k0 k2 k3 k4 k5 k6 k7
        go_region_held3 (fun w' => Below w1.heap.size w1 w' ∧ w'.cell? ⟨g, 0, none⟩ = some (.slice A1 N1 c1) ∧ w'.cell? ⟨g, 2, none⟩ = some (.bool a) ∧ w'.cell? ⟨g, 3, none⟩ = some (.bool b) ∧ w'.cell? ⟨g, 4, none⟩ = some (.bool c) ∧ w'.cell? ⟨g, 5, none⟩ = some (.bool d) ∧ w'.cell? ⟨g, 6, none⟩ = some (.bool e) ∧ w'.cell? ⟨g, 7, none⟩ = some (.bool f))
          ((show HvS w1 g (.slice A1 N1 c1) a b c d e f _; repeat (first | with_reducible exact HS0.out | with_reducible refine HvS.drew ?_ | with_reducible refine HvS.alloc HGL.out ?_ | ((with_reducible refine HvS.set' ?_ HGL.out ?_); (focus ((try dsimp only); omega))) | with_reducible refine HvS.next HGL.out hb ?_)))
          (first
            | (go_at_call 22; refine (HPC.out _ ?_).mono ?_; (focus (refine HvS.bel (g := g) (v := .slice A1 N1 c1) (a := a) (b := b) (c := c) (d := d) (e := e) (f := f) ?_; assumption)); rintro r w2 ⟨D2, cp2, rfl, hx2⟩; have HX2 := Lib.hid hx2; have hb := hx2.2.1; clear hx2; (first | ((with_reducible have hb2 := bel_in2 hb); have qa := hb2.1; have qb := hb2.2; clear hb2; (try (have qa0 := (qa.1 0 _ rfl).1; have qax0 := (qa.1 0 _ rfl).2)); (try (have qa1 := (qa.1 1 _ rfl).1; have qax1 := (qa.1 1 _ rfl).2)); (try (have qa2 := (qa.1 2 _ rfl).1; have qax2 := (qa.1 2 _ rfl).2)); (try (have qa3 := (qa.1 3 _ rfl).1; have qax3 := (qa.1 3 _ rfl).2)); (try (have qa4 := (qa.1 4 _ rfl).1; have qax4 := (qa.1 4 _ rfl).2)); (try (have qb0 := (qb.1 0 _ rfl).1; have qbx0 := (qb.1 0 _ rfl).2)); (try (have qb1 := (qb.1 1 _ rfl).1; have qbx1 := (qb.1 1 _ rfl).2)); (try (have qb2 := (qb.1 2 _ rfl).1; have qbx2 := (qb.1 2 _ rfl).2)); (try (have qb3 := (qb.1 3 _ rfl).1; have qbx3 := (qb.1 3 _ rfl).2)); (try (have qb4 := (qb.1 4 _ rfl).1; have qbx4 := (qb.1 4 _ rfl).2)); have qaf := qa.2.1; have qbf := qb.2.1; have qag := qa.2.2; have qbg := qb.2.2; clear qa qb; (with_reducible have hz2 := bel_z2 hb); have hz3 := hz2.1; have hz4 := hz2.2.1; have hz5 := hz2.2.2.1; have hz6 := hz2.2.2.2; have hz7 := fun e => hz4 (Eq.symm e); have hz8 := fun e => hz6 (Eq.symm e); clear hz2; have hs1 := set_ne (Nat.ne_of_lt (Nat.lt_add_one w1.heap.size)); have hs2 := set_nf (Nat.ne_of_lt (Nat.lt_add_one w1.heap.size)); have hs3 := set_ne (Nat.ne_of_gt (Nat.lt_add_one w1.heap.size)); have hs4 := set_nf (Nat.ne_of_gt (Nat.lt_add_one w1.heap.size))) | ((with_reducible have qa := bel_in1 hb); (try (have qa0 := (qa.1 0 _ rfl).1; have qax0 := (qa.1 0 _ rfl).2)); (try (have qa1 := (qa.1 1 _ rfl).1; have qax1 := (qa.1 1 _ rfl).2)); (try (have qa2 := (qa.1 2 _ rfl).1; have qax2 := (qa.1 2 _ rfl).2)); (try (have qa3 := (qa.1 3 _ rfl).1; have qax3 := (qa.1 3 _ rfl).2)); (try (have qa4 := (qa.1 4 _ rfl).1; have qax4 := (qa.1 4 _ rfl).2)); have qaf := qa.2.1; have qag := qa.2.2; clear qa; (with_reducible have hz2 := bel_z1 hb); have hz3 := hz2.1; have hz4 := hz2.2; have hz7 := fun e => hz4 (Eq.symm e); clear hz2; have hs1 := set_ne hz4; have hs2 := set_ne hz7; have hs3 := set_nf hz4; have hs4 := set_nf hz7) | skip)))
        all_goals go_wp2_with fail
        all_goals go_meet
        all_goals first
          | with_reducible exact HvP.f1 HX2.out
          | with_reducible exact HvP.f2 HX2.out
          | with_reducible exact HvP.f3 HX2.out
          | with_reducible exact HvP.f4 HX2.out
          | with_reducible exact HvP.f5 HX2.out
          | with_reducible exact HvP.f6 HX2.out
          | trace_state
      case rest =>
        obtain ⟨H, Q, D, nd, cd, rfl, rfl, hH, hQ, hH2, hQ2, hbx, ⟨h0, h1⟩, ⟨q0, q1, q2, q3, q4⟩, hrd, hnd, hfresh⟩ := hcut
        have hCx : FrC wc g (frV (.slice A1 N1 c1) s a b c d e f) := (HC1.out.below hbx).congr (fun j hj => by
          unfold set0
          by_cases h0 : j = 0
          · subst h0; rfl
          · rw [if_neg h0, HV.out]
            match j, hj, h0 with
            | 1, _, _ => rfl
            | 2, _, _ => rfl
            | 3, _, _ => rfl
            | 4, _, _ => rfl
            | 5, _, _ => rfl
            | 6, _, _ => rfl
            | 7, _, _ => rfl
            | 8, _, _ => rfl
            | 9, _, _ => rfl
            | 10, _, _ => rfl
            | 11, _, _ => rfl
            | 12, _, _ => rfl)
        have kx0 : wc.cell? ⟨g, 0, none⟩ = some (.slice A1 N1 c1) := (hCx.2 0 (by omega)).1
        have kx1 : wc.cell? ⟨g, 1, none⟩ = some (.int .i64 L) := by rw [HL.out]; exact (hCx.2 1 (by omega)).1
        have fx1 : wc.frozen? ⟨g, 1, none⟩ = false := (hCx.2 1 (by omega)).2
        have hlen : (s.kept ++ bs.take k).length = s.kept.length + k := by
          rw [← HE1.out, HN1.out, HN.out]
        have hkk : k = min (19 - s.kept.length) bs.length := by rw [HK1.out, HN.out, HR.out.len.1]
        have hk0 : 0 < k := by have := HM.out; have := HK1.out; have := HLT.out; omega
        have hK1 : ∀ x, K1 = some x → x < w1.heap.size := fun x hx => (HOW1.out.lt x (HBK1.out.trans hx)).2
        have hchx : Ch g K w wc := HCH1.out.below hbx
        have hrestx : RdB wc (.slice (some ⟨gm, om1, none⟩) (m - k) (cm - k)) (bs.drop k) := HREST.out.1.below hbx
        have hdav : Av g K1 D nd := fun hp x hx => by
          have := hfresh hp x hx
          have := HC1.out.1
          exact ⟨by omega, fun e => by have := hK1 _ e.symm; omega⟩
        have hKx : ∀ x, K1 = some x → x < wc.heap.size := fun x hx => Nat.lt_of_lt_of_le (hK1 x hx) hbx.size
        have howx := own_below HOW1.out hbx
        have hks : s.kept.length < 19 := by have := HLT.out; have := HN.out; omega
        have hfail := failF_mid (K := K1) (w := wc) hCx hKx HS.out an.va an.vb an.vc an.ve D nd cd an.ds hnd hrd hdav
        have hwx : w.heap.size ≤ wc.heap.size := hchx.size
        have hane := HAN.out
        rcases (show (∃ p, mark ((s.kept ++ bs.take k).take 16) = some p) ∨ mark ((s.kept ++ bs.take k).take 16) = none by
          cases hq : mark ((s.kept ++ bs.take k).take 16) with
          | none => exact .inr rfl
          | some p => exact .inl ⟨p, rfl⟩) with ⟨p, hm⟩ | hm
        · have hgood := good_mark (b := b) HH.out.ok (by simp [HS.out]) hks hkk hm
          rw [← hane] at hgood
          have e0 : an.va = 4 := by rw [hane, hdr_mark hm]
          have e2 : an.vc = 1 := by rw [hane, hdr_mark hm]
          rw [show evV an = ⟨[], 4, an.vb, 1, an.ve, an.ds⟩ by unfold evV; rw [e0, e2]] at hgood
          rw [e0] at q0
          rw [e2] at q2
          rw [e0, e2] at hfail
          have HG := Lib.hid hgood
          have HCHX := Lib.hid hchx
          have HFAIL := Lib.hid hfail
          clear hfail hgood e0 e2 hCx kx0 kx1 fx1 hlen hkk hk0 hK1 hchx hrestx hdav hKx howx hks hwx hane hm hrd hnd hfresh hbx hH hQ hH2 hQ2 h0 h1 k0 k2 k3 k4 k5 k6 k7
          go_wp2_with fail
          refine HFAIL.out.mono ?_
          rintro r w2 ⟨v2, rfl, hE, hF, hC⟩
          have HEE := Lib.hid hE
          have HFF := Lib.hid hF
          have HCC := Lib.hid hC
          clear hE hF hC
          go_wp2_with fail
          go_ret2
          exact StepP.fail HEE.out HFF.out HCC.out HCHX.out HNX1.out HG.out
        · by_cases hN : (N1 : Int) < 19
          · have hshort := good_short (b := b) HH.out.ok (by simp [HS.out]) HR.out.1 (by have := HR.out.len.1; have := HM.out; omega) hkk hm (by have := HN1.out; have := HN.out; omega)
            have e2 : an.vc = 2 := by rw [hane, hdr_short hm (by rw [hlen]; have := HN1.out; have := HN.out; omega)]
            rw [e2] at q2
            have HG := Lib.hid hshort
            have HCHX := Lib.hid hchx
            have HCX := Lib.hid hCx
            have HOWX := Lib.hid howx
            have HRX := Lib.hid hrestx
            have HLEN := Lib.hid hlen
            have HKS := Lib.hid hks
            have HNN := Lib.hid hN
            clear hfail hshort e2 hCx kx1 fx1 hlen hkk hk0 hK1 hchx hrestx hdav hKx howx hks hwx hane hm hrd hnd hfresh hbx hH hQ hH2 hQ2 h0 h1 k0 k2 k3 k4 k5 k6 k7
            go_wp2_with fail
            go_ret2
            refine ⟨some ⟨gm, om1, none⟩, m - k, cm - k, none, 0, 0, .slice A1 N1 c1, K1, ⟨s.kept ++ bs.take k, s.len, s.closed, s.frames⟩, bs.drop k, [], rfl, HRX.out.len.1, rfl, HRX.out, HREST.out.2, EvS.nil _ _ _ _, ⟨?_, ?_, HBK1.out, HNX1.out.ne HH.out.glt HH.out.ne, HG.out.1⟩, HCHX.out, HNX1.out, HG.out⟩
            · refine HCX.out.congr (fun j hj => ?_)
              match j, hj with
              | 0, _ => rfl
              | 1, _ =>
                show Value.int .i64 (St.want _) = .int .i64 (St.want _)
                unfold St.want
                rw [if_pos (by exact HKS.out), if_pos (show (s.kept ++ bs.take k).length < 19 by rw [HLEN.out]; have := HN1.out; have := HN.out; have := HNN.out; omega)]
              | 2, _ => rfl
              | 3, _ => rfl
              | 4, _ => rfl
              | 5, _ => rfl
              | 6, _ => rfl
              | 7, _ => rfl
              | 8, _ => rfl
              | 9, _ => rfl
              | 10, _ => rfl
              | 11, _ => rfl
              | 12, _ => rfl
            · show wc.ownsRow 0 5 1 (.slice A1 N1 c1) (s.kept ++ bs.take k).length (bv (s.kept ++ bs.take k))
              rw [← HE1.out]
              exact HOWX.out
          · have h19 : s.kept.length + k = 19 := by have := HN1.out; have := HN.out; have := HN19.out; omega
            have hkb : k ≤ bs.length := by have := HKM.out; have := HR.out.len.1; omega
            by_cases hva : an.va = 0
            · have hvc : an.vc = 0 := by rw [hane]; rw [hane] at hva; exact hdr_vc0 hva
              have hhd := fun (k2 : Nat) => good_head (b := b) (n := an.n) (k2 := k2) HH.out.ok (by simp [HS.out]) HR.out.1 hkb hk0 h19 hm (by rw [← hane]; exact hva) (by rw [hane])
              have hnn := hdr_len (b := b) hm (by rw [hlen]; omega) (by rw [← hane]; exact hva)
              rw [← hane] at hnn
              have hmx := mostK_le b
              rw [hva] at q0
              rw [hvc] at q2
              have HHD := Lib.hid hhd
              have HNN := Lib.hid hnn
              have HMX := Lib.hid hmx
              have HCHX := Lib.hid hchx
              have HCX := Lib.hid hCx
              have HOWX := Lib.hid howx
              have HRX := Lib.hid hrestx
              have HLEN := Lib.hid hlen
              have H19 := Lib.hid h19
              clear hfail hva hvc hhd hnn hmx h19 hkb hCx hlen hkk hk0 hK1 hchx hrestx hdav hKx howx hks hwx hane hm hrd hnd hfresh hbx hH hQ hH2 hQ2 h1 k0 k2 k3 k4 k5 k6 k7
              go_wp2_with fail
              go_meet
              case rel =>
                have h19 : (s.kept ++ bs.take k).length = 19 := by rw [HLEN.out]; exact H19.out
                have hnn := HNN.out
                have hmx := HMX.out
                refine ⟨gm, om1, m - k, cm - k, bs.drop k, s.kept ++ bs.take k, A1, c1, K1, an.n, rfl, HRX.out.ch HREST.out.2 ((Ch.refl g K1 wc).set 1 _), HREST.out.2, ?_, ?_, by rw [← HE1.out]; exact HBK1.out, HNX1.out.ne HH.out.glt HH.out.ne, HCHX.out.set 1 _, HNX1.out, HBY1.out, by omega, by omega, by omega, fun k2 hk2 => ?_⟩
                · rw [← HE1.out]
                  refine (HCX.out.upd 1 _).congr (fun j hj => ?_)
                  match j, hj with
                  | 0, _ => rfl
                  | 1, _ =>
                    show Value.int .i64 an.n = .int .i64 (St.want _)
                    unfold St.want
                    rw [if_neg (show ¬ (s.kept ++ bs.take k).length < 19 by omega)]
                  | 2, _ => rfl
                  | 3, _ => rfl
                  | 4, _ => rfl
                  | 5, _ => rfl
                  | 6, _ => rfl
                  | 7, _ => rfl
                  | 8, _ => rfl
                  | 9, _ => rfl
                  | 10, _ => rfl
                  | 11, _ => rfl
                  | 12, _ => rfl
                · rw [← HE1.out]
                  exact own_set HOWX.out (by rw [HBK1.out]; exact HNX1.out.neg HH.out.glt HH.out.ne) 1 _
                · have hl2 := HRX.out.len.1
                  have := HHD.out k2 (by rw [hk2, h19, hl2]; rfl)
                  rw [h19]
                  exact this
            · have hb19 := hdr_19 (b := b) hm (by rw [hlen]; omega) (by rw [← hane]; exact hva)
              have hbad := good_bad (b := b) HH.out.ok (by simp [HS.out]) hkb hk0 h19 hm (by rw [← hane]; exact hva)
              rw [← hane] at hb19 hbad
              have e0 := hb19.2
              have hvc : (an.vc == 1) = false := by simp [hb19.1]
              rw [show evV an = ⟨[], 4, an.vb, an.vc, an.ve, an.ds⟩ by unfold evV; rw [e0]] at hbad
              rw [e0] at q0 hfail
              have HG := Lib.hid hbad
              have HCHX := Lib.hid hchx
              have HFAIL := Lib.hid hfail
              clear hfail hbad hb19 e0 hva h19 hkb hCx kx1 fx1 hlen hkk hk0 hK1 hchx hrestx hdav hKx howx hks hwx hane hm hrd hnd hfresh hbx hH hQ hH2 hQ2 h0 h1 k0 k2 k3 k4 k5 k6 k7
              go_wp2_with fail
              refine HFAIL.out.mono ?_
              rintro r w2 ⟨v2, rfl, hE, hF, hC⟩
              have HEE := Lib.hid hE
              have HFF := Lib.hid hF
              have HCC := Lib.hid hC
              clear hE hF hC
              go_wp2_with fail
              go_ret2
              exact StepP.fail HEE.out HFF.out HCC.out HCHX.out HNX1.out HG.out
  case rest =>
    obtain ⟨gm1, om1, m1, cm1, rest, kept, A1, c1, K1, L1, rfl, hr1, hav1, hC1, how1, hb1, hg1, hch1, hn1, hby, h19, hKL, hL65, hcont⟩ := hcut
    obtain ⟨n1, hn1'⟩ : ∃ n1, n1 = kept.length := ⟨_, rfl⟩
    obtain ⟨D, hD⟩ : ∃ D : Nat, L1 - n1 = D := ⟨(L1 - n1).toNat, by omega⟩
    obtain ⟨k, hk⟩ : ∃ k, k = min D m1 := ⟨_, rfl⟩
    have hgood := hcont k (by rw [← hn1', hD, hk]; omega)
    rw [← hn1'] at hC1 how1 hb1 h19 hKL hgood
    obtain ⟨V, hV⟩ : ∃ V, V = frV (.slice A1 n1 c1) ⟨kept, L1, s.closed, s.frames⟩ a b c d e f := ⟨_, rfl⟩
    have hV1 : V 1 = .int .i64 L1 := by rw [hV]; show Value.int .i64 (St.want _) = _; unfold St.want; rw [if_neg (by simp; omega)]
    have hV12 : V 12 = .int .i64 s.frames := by rw [hV]; rfl
    have hV0 : V 0 = .slice A1 n1 c1 := by rw [hV]; rfl
    rw [← hV] at hC1
    have hfill := Lib.hid (fun (w' : World) (hw' : w' = wc.drew) => fill_walk g K1 V kept A1 n1 c1 L1 D k gm1 om1 m1 cm1 rest w' (by rw [hw']; exact hC1) hV0 (by rw [hw']; exact how1) hb1 hg1 (by rw [hw']; exact hr1.drew) (by omega) hD (by omega) (by omega) (by omega) (by omega))
    have k1 : wc.cell? ⟨g, 1, none⟩ = some (.int .i64 L1) := by rw [(hC1.2 1 (by omega)).1, hV1]
    have HKM := Lib.hid (show k ≤ m1 by omega)
    have HKL := Lib.hid (show ((n1 + k : Nat) : Int) ≤ L1 by omega)
    have HR1 := Lib.hid hr1
    have HAV1 := Lib.hid hav1
    have HG1 := Lib.hid hg1
    have HCH1 := Lib.hid hch1
    have HNX1 := Lib.hid hn1
    have HGOOD := Lib.hid hgood
    have HV := Lib.hid hV
    have HV1 := Lib.hid hV1
    have HV12 := Lib.hid hV12
    have HBY := Lib.hid hby
    have HN1 := Lib.hid hn1'
    have HNUM := Lib.hid (And.intro h19 (And.intro hKL hL65))
    have HGG := Lib.hid hC1.1
    clear hr1 hav1 hC1 how1 hb1 hg1 hch1 hn1 hby h19 hKL hL65 hcont hn1' hD hk hgood hV hV0 hV1 hV12
    go_wp2_with fail
    go_region_with (go_at_call 68; refine (hfill.out _ rfl).mono ?_; rintro r w1 ⟨A2, c2, om2, K2, rfl, hx1⟩; have HX1 := Lib.hid hx1; clear hx1)
    obtain ⟨ho2, hC2, how2, hb2, hn2, hch2⟩ := HX1.out
    have k0 := (hC2.2 0 (by omega)).1
    have k1' := (hC2.2 1 (by omega)).1
    have k12 := (hC2.2 12 (by omega)).1
    have f12 := (hC2.2 12 (by omega)).2
    rw [show set0 V (Value.slice A2 (n1 + k) c2) 1 = .int .i64 L1 from HV1.out] at k1'
    rw [show set0 V (Value.slice A2 (n1 + k) c2) 12 = .int .i64 s.frames from HV12.out] at k12
    rw [show set0 V (Value.slice A2 (n1 + k) c2) 0 = .slice A2 (n1 + k) c2 from rfl] at k0
    have hch2' : Ch g K1 wc w1 := ⟨hch2.os, hch2.tape, hch2.output, hch2.size, hch2.block⟩
    have hn2' : Nx wc K1 K2 := hn2
    have hrest := RdB.rest HR1.out HAV1.out hch2' hn2' HKM.out ho2
    obtain ⟨N2, hN2⟩ : ∃ N2, N2 = n1 + k := ⟨_, rfl⟩
    rw [← hN2] at k0 hC2 how2 hb2
    have HC2 := Lib.hid hC2
    have HOW2 := Lib.hid how2
    have HBK2 := Lib.hid hb2
    have HCH2 := Lib.hid (HCH1.out.trans hch2' HNX1.out)
    have HNX2 := Lib.hid (HNX1.out.trans hn2' HCH1.out.size)
    have HREST := Lib.hid hrest
    have HN2 := Lib.hid hN2
    have HNE2 := Lib.hid (show K2 ≠ some g from hn2.neg (g := g) (w := wc.drew) HGG.out HG1.out)
    clear HX1 ho2 hC2 how2 hb2 hn2 hch2 hch2' hn2' hN2 hrest k1 hfill
    have hgood := HGOOD.out
    by_cases hlt : (N2 : Int) < L1
    · rw [if_pos (by rw [← HN2.out]; exact hlt)] at hgood
      have HG2 := Lib.hid hgood
      clear hgood
      go_wp2_with fail
      go_quiet (fail)
      go_wp2_with fail
      go_ret2
      have e2 : N2 = (kept ++ rest.take k).length := by
        have := HR1.out.len.1
        have := HKM.out
        have := HN1.out
        have := HN2.out
        rw [List.length_append, List.length_take]; omega
      have h19 := HNUM.out.1
      refine ⟨some ⟨gm1, om2, none⟩, m1 - k, cm1 - k, none, 0, 0, .slice A2 N2 c2, K2, ⟨kept ++ rest.take k, L1, s.closed, s.frames⟩, rest.drop k, [], rfl, HREST.out.1.len.1, rfl, HREST.out.1.below (below_drewN (Below.refl _ _) _), HREST.out.2, EvS.nil _ _ _ _, ⟨?_, ?_, HBK2.out, fun e => HNE2.out e.symm, HG2.out.1⟩, HCH2.out.drewN _, HNX2.out, HG2.out⟩
      · have hq : FrC (w1.drewN nq) g (set0 V (.slice A2 N2 c2)) := HC2.out
        refine hq.congr (fun j hj => ?_)
        rw [HV.out]
        match j, hj with
        | 0, _ => rfl
        | 1, _ =>
          show Value.int .i64 (St.want _) = .int .i64 (St.want _)
          unfold St.want
          rw [if_neg (by simp only; rw [← HN1.out]; omega), if_neg (by simp only; rw [← e2]; have := HN2.out; omega)]
        | 2, _ => rfl
        | 3, _ => rfl
        | 4, _ => rfl
        | 5, _ => rfl
        | 6, _ => rfl
        | 7, _ => rfl
        | 8, _ => rfl
        | 9, _ => rfl
        | 10, _ => rfl
        | 11, _ => rfl
        | 12, _ => rfl
      · show (w1.drewN nq).ownsRow 0 5 1 (.slice A2 N2 c2) (kept ++ rest.take k).length (bv (kept ++ rest.take k))
        rw [← e2]
        exact HOW2.out
    · rw [if_neg (by rw [← HN2.out]; exact hlt)] at hgood
      have HG2 := Lib.hid hgood
      clear hgood
      go_wp2_with fail
      go_quiet (fail)
      go_wp2_with fail
      refine (add64_any ⟨g, 12, none⟩ s.frames HFR.out (w1.drewN nq) k12 f12).mono ?_
      rintro r w2 ⟨rfl, hw2⟩
      have hC3 : FrC w2 g (upd (set0 V (.slice A2 N2 c2)) 12 (.int .i64 (s.frames + 1))) := by
        rw [hw2]
        have hq : FrC (w1.drewN nq) g (set0 V (.slice A2 N2 c2)) := HC2.out
        exact hq.upd 12 _
      have HDR := Lib.hid (drop_any g _ A2 N2 c2 L1 w2 hC3 rfl HV1.out)
      have HC3 := Lib.hid hC3
      have HCH3 := Lib.hid (show Ch g K w w2 by rw [hw2]; exact (HCH2.out.drewN _).set 12 _)
      have HOW3 := Lib.hid (show w2.ownsRow 0 5 1 (.slice A2 N2 c2) N2 (bv (kept ++ rest.take k)) by
        rw [hw2]
        have hq : (w1.drewN nq).ownsRow 0 5 1 (.slice A2 N2 c2) N2 (bv (kept ++ rest.take k)) := HOW2.out
        exact own_set hq (by rw [HBK2.out]; exact HNE2.out) 12 _)
      have hre3 : RdB w2 (.slice (some ⟨gm1, om2, none⟩) (m1 - k) (cm1 - k)) (rest.drop k) := by
        rw [hw2]
        exact HREST.out.1.ch HREST.out.2 (((Ch.refl g K2 w1).drewN nq).set 12 _)
      have HRE3 := Lib.hid hre3
      clear hw2 hC3 hre3
      go_wp2_with fail
      refine HDR.out.mono ?_
      rintro r w3 ⟨rfl, hw3⟩
      have HC4 := Lib.hid (show FrC w3 g (upd (upd (upd (set0 V (.slice A2 N2 c2)) 12 (.int .i64 (s.frames + 1))) 0 (.slice none 0 0)) 1 (.int .i64 0)) by rw [hw3]; exact (HC3.out.upd 0 _).upd 1 _)
      have HCH4 := Lib.hid (show Ch g K w w3 by rw [hw3]; exact (HCH3.out.set 0 _).set 1 _)
      have HOW4 := Lib.hid (show w3.ownsRow 0 5 1 (.slice A2 N2 c2) N2 (bv (kept ++ rest.take k)) by
        rw [hw3]; exact own_set (own_set HOW3.out (by rw [HBK2.out]; exact HNE2.out) 0 _) (by rw [HBK2.out]; exact HNE2.out) 1 _)
      have HRE4 := Lib.hid (show RdB w3 (.slice (some ⟨gm1, om2, none⟩) (m1 - k) (cm1 - k)) (rest.drop k) by
        rw [hw3]; exact HRE3.out.ch HREST.out.2 (((Ch.refl g K2 w2).set 0 _).set 1 _))
      clear hw3
      go_wp2_with fail
      go_ret2
      have e2 : N2 = (kept ++ rest.take k).length := by
        have := HR1.out.len.1
        have := HKM.out
        have := HN1.out
        have := HN2.out
        rw [List.length_append, List.length_take]; omega
      have hby2 : ∀ x ∈ kept ++ rest.take k, 0 ≤ x ∧ x ≤ 255 := fun x hx => by
        rcases List.mem_append.1 hx with hx | hx
        · exact HBY.out x hx
        · exact HR1.out.1 x (List.mem_of_mem_take hx)
      have hml := HR1.out.len
      have hmx : (kept ++ rest.take k).length ≤ maxB := by
        rw [← e2]
        have h1 := HN2.out
        have h2 := HNUM.out.2.2
        have h3 := HKL.out
        unfold maxB; omega
      obtain ⟨A4, c4, e4, hr4, hav4, hf4⟩ := own_mid HOW4.out e2 hby2 hmx (by rw [HBK2.out]; exact HNE2.out)
      injection e4 with e5 e6 e7
      subst e5 e7
      have hb4 := below_alloc (Below.refl w3.heap.size w3) (.cells #[.slice A2 N2 c2, .int .i64 0, .int .i64 0, .int .i64 0, .slice none 0 0, .int .i64 0] 75)
      refine ⟨some ⟨gm1, om2, none⟩, m1 - k, cm1 - k, some ⟨w3.heap.size, 0, none⟩, 1, 1, .slice none 0 0, none, ⟨[], L1, s.closed, s.frames + 1⟩, rest.drop k, [evF (kept ++ rest.take k)], rfl, HRE4.out.len.1, rfl, HRE4.out.below hb4, fun hp x hx => ⟨(HREST.out.2 hp x hx).1, nofun⟩,
        EvS.lit ⟨A2, N2, c2, none, 0, 0, rfl, e2, rfl, hr4.below hb4, hav4, RdB.nil _ _ _ ⟨by omega, fun _ => rfl⟩, Av.zero _ _ _, fun a ha j hj => ?_, fun hp a ha => HNX2.out.gt HKG.out HH.out.glt _ (by rw [← HBK2.out, ha]; rfl)⟩ HC4.out.1 nofun rfl HCH4.out.size, ⟨(HC4.out.below hb4).congr (fun j hj => ?_), own_nil _ _ _ _, rfl, nofun, HG2.out.1⟩, HCH4.out.alloc _, .inl rfl, HG2.out⟩
      · obtain ⟨gm', om', e, hlt'⟩ := hr4.lt (by omega)
        have ea : a = ⟨gm', om', none⟩ := by rw [e] at ha; injection ha with ha; exact ha.symm
        subst ea
        show World.frozen? (World.alloc _ _) _ = false
        rw [World.frozen?_alloc_past _ _ _ hlt']
        exact hf4 _ ha j hj
      · rw [HV.out]
        match j, hj with
        | 0, _ => rfl
        | 1, _ => rfl
        | 2, _ => rfl
        | 3, _ => rfl
        | 4, _ => rfl
        | 5, _ => rfl
        | 6, _ => rfl
        | 7, _ => rfl
        | 8, _ => rfl
        | 9, _ => rfl
        | 10, _ => rfl
        | 11, _ => rfl
        | 12, _ => rfl

end Go.Proofs.Ytdiiolbkjmhmdaa
