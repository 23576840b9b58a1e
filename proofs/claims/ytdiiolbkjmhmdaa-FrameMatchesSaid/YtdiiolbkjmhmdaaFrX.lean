/- The law FrameNil. -/
import Derived.Test.YtdiiolbkjmhmdaaFrW
namespace Go.Proofs.Ytdiiolbkjmhmdaa
open Go.RowKit
set_option linter.unusedSimpArgs false
set_option linter.unusedVariables false

theorem feed_len (b : Bool) : ∀ (xs : List Int) (s : St), (feed b s xs).1.kept.length ≤ s.kept.length + xs.length
  | [], s => by simp [feed]
  | c :: r, s => by
    by_cases h : s.closed = true
    · rw [feed_closed h]; simp
    · rw [feed_cons h]
      have h1 := one_len b s c
      have h2 := feed_len b r (one b s c).1
      simp only [List.length_cons]
      omega
set_option maxRecDepth 100000 in
set_option maxHeartbeats 4000000 in
theorem nil_few (a b c d e f : Bool) (A : Option Addr) (m cap : Nat) (A' : Option Addr) (m' cap' : Nat) (w : World) (hf : fewB [m, m'] = false) :
    Calls Try.prog 11 #[.agg #[.bool a, .bool b, .bool c, .bool d, .bool e, .bool f], .slice A m cap, .slice A' m' cap'] w (RB true w) := by
  have HAL := Lib.hid (fun W : World => aliveF_any W)
  have HF := Lib.hid hf
  clear hf
  go_enter Try.func11, Try.ntmps11
  go_wp2_with fail
  refine (few2 _ A m cap A' m' cap' _ (by simp)).mono ?_
  rintro r w1 ⟨rfl, hb1⟩
  have HB1 := Lib.hid (below_then' (below_alloc (below_alloc (Below.refl _ _) _) _) hb1)
  clear hb1
  rw [HF.out]
  go_wp2_with fail
  refine (HAL.out _).mono ?_
  rintro r w2 ⟨rfl, hb2⟩
  have HB2 := Lib.hid hb2
  clear hb2
  go_wp2_with fail
  go_ret
  exact ⟨rfl, below_then' HB1.out HB2.out⟩

set_option maxRecDepth 100000 in
set_option maxHeartbeats 8000000 in
theorem nil_walk (a b c d e f : Bool) (A : Option Addr) (m cap : Nat) (xs : List Int) (A' : Option Addr) (m' cap' : Nat) (ys : List Int) (w : World) (hr : RdB w (.slice A m cap) xs) (hr' : RdB w (.slice A' m' cap') ys) (hf : fewB [m, m'] = true) :
    Calls Try.prog 11 #[.agg #[.bool a, .bool b, .bool c, .bool d, .bool e, .bool f], .slice A m cap, .slice A' m' cap'] w (RB true w) := by
  have HAL := Lib.hid (fun W : World => aliveF_any W)
  have hs : m + m' ≤ 1500 := by have := (fewB_sum hf).1; simpa using this
  have HM := Lib.hid hs
  have HF := Lib.hid hf
  have HR := Lib.hid hr
  have HR' := Lib.hid hr'
  have HML := Lib.hid (And.intro hr.len.1 hr'.len.1)
  have hm63 : (m : Int) ≤ 9223372036854775807 := by omega
  have hm63' : (m' : Int) ≤ 9223372036854775807 := by omega
  clear hf hs hr hr'
  go_enter Try.func11, Try.ntmps11
  go_wp2_with fail
  refine (few2 _ A m cap A' m' cap' _ (by simp)).mono ?_
  rintro r w1 ⟨rfl, hb1⟩
  rw [HF.out]
  have p : ∀ (j : Nat) (u : Value), (#[.bool a, .bool b, .bool c, .bool d, .bool e, .bool f] : Array Value)[j]? = some u → w1.cell? ⟨w.heap.size, j, none⟩ = some u := fun j u hu => by
    rw [hb1.cell (by simp; omega), World.cell?_alloc_past _ _ _ (by simp), World.cell?_alloc_at _ _ _ _ rfl]; exact hu
  have hw1 : w.heap.size < w1.heap.size := by have := hb1.size; simp at this; omega
  have HP := Lib.hid p
  have HB1 := Lib.hid (below_then' (below_alloc (below_alloc (Below.refl _ _) _) _) hb1)
  have HW1 := Lib.hid hw1
  have p0 := p 0 _ rfl
  have p1 := p 1 _ rfl
  have p2 := p 2 _ rfl
  have p3 := p 3 _ rfl
  have p4 := p 4 _ rfl
  have p5 := p 5 _ rfl
  clear p hw1 hb1
  go_wp2_with fail
  refine (new_fr a b c d e f _).mono ?_
  rintro r w2 ⟨g, rfl, hg, hb2, hF⟩
  have HG := Lib.hid (show w.heap.size < g by have := HW1.out; omega)
  have HB2 := Lib.hid (below_then' HB1.out hb2)
  have HB12 := Lib.hid hb2
  have HF2 := Lib.hid hF
  clear hg hb2 hF p0 p1 p2 p3 p4 p5
  have HCLO := Lib.hid (clone_any w2 _ xs (HR.out.below HB2.out))
  go_wp2_with fail
  refine HCLO.out.mono ?_
  rintro r w3 ⟨A3, c3, rfl, ho3, hb3⟩
  rw [← HML.out.1] at ho3 ⊢
  have HO3 := Lib.hid ho3
  have HB3 := Lib.hid hb3
  have hrd3 : RdB w3 (.slice A3 m c3) xs := RdB.own (by rw [← HML.out.1]; exact ho3) HR.out.1 HR.out.2.1
  have hav3 : Av g none A3 m := fun hp x hx => ⟨by
    have h1 := Fs.own ho3 hp x hx
    have := HF2.out.glt
    omega, nofun⟩
  have HFD := Lib.hid (feed_any (HF2.out.below hb3) A3 m c3 xs hrd3 hav3 (by have := HM.out; have := HML.out.1; have h0 : newSt.frames = 0 := rfl; omega) nofun)
  have HRD3 := Lib.hid hrd3
  have HAV3 := Lib.hid hav3
  clear ho3 hb3 hrd3 hav3 HCLO
  go_wp2_with fail
  refine HFD.out.mono ?_
  rintro r w4 ⟨vl, v4, K4, rfl, hE4, hF4, hch4, hnx4⟩
  have hcnt := feed_count b xs newSt
  have hlen := feed_len b xs newSt
  obtain ⟨R, hR⟩ : ∃ R, R = feed b newSt xs := ⟨_, rfl⟩
  rw [← hR] at hE4 hF4 hcnt hlen
  have HRR := Lib.hid hR
  have HCNT := Lib.hid (show R.2.length ≤ 1500 ∧ R.1.kept.length ≤ 1500 ∧ 0 ≤ R.1.frames ∧ R.1.frames ≤ 1500 by
    have := HM.out; have := HML.out.1; have h0 : newSt.frames = 0 := rfl
    have h1 : newSt.kept.length = 0 := rfl
    have hcl : R.2.countP (fun e => decide (e.va = 0)) ≤ R.2.length := List.countP_le_length
    omega)
  obtain ⟨AL, cL, rfl⟩ := hE4.form
  obtain ⟨n, hn⟩ : ∃ n, n = R.2.length := ⟨_, rfl⟩
  have HN := Lib.hid hn
  obtain ⟨cs, hpE, hlE⟩ := hE4.part
  rw [← hn] at hpE ⊢
  have HPE := Lib.hid hpE
  have HLE := Lib.hid hlE
  have hn63 : (n : Int) ≤ 9223372036854775807 := by have := HCNT.out.1; omega
  clear hn hpE hlE
  have HF4 := Lib.hid hF4
  have HCH4 := Lib.hid hch4
  have HNX4 := Lib.hid hnx4
  have hrd4 : RdB w4 (.slice A3 m c3) xs := HRD3.out.ch HAV3.out hch4
  have hown4 := own_ch (g := g) (K := none) HO3.out (fun k hk => ⟨by have := (HO3.out.lt k hk).1; have := HF2.out.glt; omega, nofun⟩) hch4
  have HRD4 := Lib.hid hrd4
  have HO4 := Lib.hid hown4
  have HAV4 := Lib.hid (HAV3.out.nx HRD3.out hnx4)
  clear hR hcnt hlen hE4 hF4 hch4 hnx4 hrd4 hown4 HFD
  go_wp2_with fail
  go_loopw [36] (fun i wr => ∃ j : Nat, j ≤ m ∧ i = .int .i64 j ∧ Tw g K4 w4 wr) (fun i _ => m - (intOf i).toNat)
  case atStart => exact ⟨0, by omega, rfl, Tw.refl⟩
  case round =>
    obtain ⟨j, hj, rfl, ht⟩ := hrel
    have HT := Lib.hid ht
    clear ht
    by_cases hlt : j < m
    · have jn : (j : Int) < m := by omega
      obtain ⟨go, oo, eA, hgo, hco⟩ : ∃ g o, A3 = some ⟨g, o, none⟩ ∧ g < w4.heap.size ∧ ∀ j, j < m → w4.cell? ⟨g, o + j, none⟩ = some (.int .u8 (xs.getD j 0)) := by
        obtain ⟨h1, h2, A', c', e, h3, h4, h5⟩ := HRD4.out
        injection e with e1 e2 e3
        subst e1
        obtain ⟨g', o', e, hg', hc'⟩ := h5 (by omega)
        exact ⟨g', o', e, hg', fun j hj => hc' j (by omega)⟩
      subst eA
      have hav := HAV4.out (by omega) _ rfl
      have hgg : g < go := by
        have h1 := Fs.own HO3.out (by omega) _ rfl
        have := HF2.out.glt
        simp at h1
        omega
      obtain ⟨y, hy⟩ := HT.out.byte (p := ⟨go, oo + j, none⟩) hgo (hco j hlt)
      have hfz : wr.frozen? ⟨go, oo + j, none⟩ = false := by
        rw [HT.out.frozen ⟨go, oo + j, none⟩ hgo]
        rcases HO4.out.2 with ⟨e, _⟩ | ⟨g', cap0, cur, e, _, hg', _⟩
        · cases e
        · injection e with e _ _
          injection e with e
          injection e with e _
          subst e
          simp [World.frozen?, hg']
      have HTS := Lib.hid (fun z => HT.out.set (p := ⟨go, oo + j, none⟩) hgo hgg hav.2 (hco j hlt) z)
      clear hco hgo hav hgg
      go_wp2_with fail
      go_round
      case rel => exact ⟨j + 1, by omega, by go_num, HTS.out _⟩
      case measure => simp [intOf]; omega
    · have jn : ¬ (j : Int) < m := by omega
      have HT5 := HT
      go_wp2_with fail
      go_loopw [48] (fun i wr => ∃ j : Nat, j ≤ n ∧ i = .int .i64 j ∧ Tw g K4 w4 wr) (fun i _ => n - (intOf i).toNat)
      case atStart => exact ⟨0, by omega, rfl, HT5.out⟩
      case round =>
        obtain ⟨k, hk, rfl, ht⟩ := hrel
        have HT := Lib.hid ht
        clear ht
        by_cases hlt : k < n
        · have kn : (k : Int) < n := by omega
          obtain ⟨gW, eA, hgW, hcW⟩ : ∃ g, AL = some ⟨g, 0, none⟩ ∧ g < w4.heap.size ∧ ∀ j u, cs[j]? = some u → w4.cell? ⟨g, j, none⟩ = some u := by
            rcases HPE.out.2.2 with ⟨e, e0⟩ | ⟨g', c', e, hc, hg, hq⟩
            · omega
            · injection e with e1 e2 e3
              exact ⟨g', e1, hg, hq⟩
          subst eA
          have hes : R.2[k]? = some (R.2[k]'(by have := HN.out; omega)) := List.getElem?_eq_getElem _
          obtain ⟨ev, hev⟩ : ∃ ev, ev = R.2[k]'(by have := HN.out; omega) := ⟨_, rfl⟩
          rw [← hev] at hes
          obtain ⟨F, cf, D, cd, k0, k1, k2, k3, k4, k5, hrF, haF, hrD, haD, hfF, hgF⟩ := EvC.at HLE.out hes
          obtain ⟨l, hl⟩ : ∃ l, l = ev.fr.length := ⟨_, rfl⟩
          rw [← hl] at k0 hrF haF hfF hgF
          obtain ⟨dl, hdl⟩ : ∃ l, l = ev.ds.length := ⟨_, rfl⟩
          rw [← hdl] at k4
          have k0' := HT.out.keep (p := ⟨gW, k * 6, none⟩) hgW (hcW _ _ k0) (fun _ h => nomatch h)
          have k1' := HT.out.keep (p := ⟨gW, k * 6 + 1, none⟩) hgW (hcW _ _ k1) (fun _ h => nomatch h)
          have k2' := HT.out.keep (p := ⟨gW, k * 6 + 2, none⟩) hgW (hcW _ _ k2) (fun _ h => nomatch h)
          have k3' := HT.out.keep (p := ⟨gW, k * 6 + 3, none⟩) hgW (hcW _ _ k3) (fun _ h => nomatch h)
          have k4' := HT.out.keep (p := ⟨gW, k * 6 + 4, none⟩) hgW (hcW _ _ k4) (fun _ h => nomatch h)
          have k5' := HT.out.keep (p := ⟨gW, k * 6 + 5, none⟩) hgW (hcW _ _ k5) (fun _ h => nomatch h)
          have HRF := Lib.hid hrF
          have HAF := Lib.hid haF
          have HFF := Lib.hid hfF
          have HGF := Lib.hid hgF
          have HSZ0 := Lib.hid (show ∀ q : Nat, q < w4.heap.size → ¬ q = wr.heap.size from fun q hq => by have := HT.out.size; omega)
          have hl63 : (l : Int) ≤ 9223372036854775807 := by have := hrF.len; omega
          clear k0 k1 k2 k3 k4 k5 hrF haF hrD haD hfF hgF hes hev hl hdl hcW hgW
          go_wp2_with fail
          go_loopw [55] (fun i wx => ∃ j2 : Nat, j2 ≤ l ∧ i = .int .i64 j2 ∧ Tw g K4 w4 wx ∧ wx.cell? ⟨wr.heap.size, 0, none⟩ = some (.slice F l cf)) (fun i _ => l - (intOf i).toNat)
          case atStart => exact ⟨0, by omega, rfl, HT.out.below (below_alloc (Below.refl _ _) _), by rw [World.cell?_alloc_at _ _ _ _ rfl]; rfl⟩
          case round =>
            obtain ⟨j2, hj2, rfl, ht2, hc2⟩ := hrel
            have HT2 := Lib.hid ht2
            have HC2 := Lib.hid hc2
            clear ht2
            by_cases hlt2 : j2 < l
            · have jl : (j2 : Int) < l := by omega
              obtain ⟨gf, of, eF, hgf, hcf⟩ : ∃ g o, F = some ⟨g, o, none⟩ ∧ g < w4.heap.size ∧ ∀ j, j < l → ∃ x, w4.cell? ⟨g, o + j, none⟩ = some (.int .u8 x) := by
                have hll := HRF.out.len.1
                obtain ⟨h1, h2, A', c', e, h3, h4, h5⟩ := HRF.out
                injection e with e1 e2 e3
                subst e1
                obtain ⟨g', o', e, hg', hc'⟩ := h5 (by omega)
                exact ⟨g', o', e, hg', fun j hj => ⟨_, hc' j (by omega)⟩⟩
              subst eF
              have hav := HAF.out (by omega) _ rfl
              have hgg : g < gf := HGF.out (by omega) _ rfl
              obtain ⟨x0, hx0⟩ := hcf j2 hlt2
              obtain ⟨y, hy⟩ := HT2.out.byte (p := ⟨gf, of + j2, none⟩) hgf hx0
              have hfz : wr.frozen? ⟨gf, of + j2, none⟩ = false := by
                rw [HT2.out.frozen ⟨gf, of + j2, none⟩ hgf]
                exact HFF.out _ rfl j2 hlt2
              have HTS := Lib.hid (fun z => HT2.out.set (p := ⟨gf, of + j2, none⟩) hgf hgg hav.2 hx0 z)
              have HNE := Lib.hid (HSZ0.out gf hgf)
              clear hcf hgf hav hgg hx0
              go_wp2_with fail
              go_round
              case rel => exact ⟨j2 + 1, by omega, by go_num, HTS.out _, by rw [set_ne HNE.out]; exact HC2.out⟩
              case measure => simp [intOf]; omega
            · have jl : ¬ (j2 : Int) < l := by omega
              clear hc2
              go_wp2_with fail
              go_round
              case rel => exact ⟨k + 1, by omega, by go_num, HT2.out⟩
              case measure => simp [intOf]; omega
        · have kn : ¬ (k : Int) < n := by omega
          have hB4 : Below w.heap.size w w4 := (HB2.out.trans (HB3.out.mono HB2.out.size)).trans (HCH4.out.bel (by have := HB2.out.size; have := HB3.out.size; omega) (by have := HG.out; omega) (fun k hk => by cases hk))
          have hBW : Below w.heap.size w wr := hB4.trans (HT.out.bel hB4.size (by have := HG.out; omega))
          have hK4 : ∀ x, K4 = some x → w3.heap.size ≤ x := fun x hx => by
            rcases HNX4.out with h | h | ⟨y, h, hy⟩
            · rw [h] at hx; cases hx
            · rw [h] at hx; cases hx
            · rw [h] at hx; injection hx with hx; omega
          have q : ∀ (j : Nat) (u : Value), (#[.bool a, .bool b, .bool c, .bool d, .bool e, .bool f] : Array Value)[j]? = some u → wr.cell? ⟨w.heap.size, j, none⟩ = some u := fun j u hu => by
            have s1 : w.heap.size < w2.heap.size := by have := HW1.out; have := HB12.out.size; omega
            have s2 : w.heap.size < w3.heap.size := by have := HB3.out.size; omega
            have h4 : w4.cell? ⟨w.heap.size, j, none⟩ = some u := by
              rw [HCH4.out.cell (by exact s2) (by have := HG.out; show w.heap.size ≠ g; omega) nofun, HB3.out.cell s1, HB12.out.cell HW1.out]; exact HP.out j u hu
            rw [World.cell?_of_block (w := w4) (a := ⟨w.heap.size, j, none⟩) (HT.out.low _ (by have := HCH4.out.size; show w.heap.size < w4.heap.size; omega) (.inl (by have := HG.out; show w.heap.size ≤ g; omega)))]
            exact h4
          have hwlt : w.heap.size < wr.heap.size := by have := HW1.out; have := HB12.out.size; have := HB3.out.size; have := HCH4.out.size; have := HT.out.size; omega
          have hav : ∀ (B : Option Addr) (n cn : Nat) (zs : List Int), RdB w (.slice B n cn) zs → Av g K4 B n := fun B n cn zs hr hp x hx => by
            obtain ⟨gm, om, e1, hlt⟩ := hr.lt hp
            rw [e1] at hx; injection hx with hx; rw [← hx]
            have := HG.out
            refine ⟨by show gm ≠ g; omega, fun e => ?_⟩
            have h1 := hK4 _ e.symm
            have := HB3.out.size; have := HB2.out.size
            simp at h1; omega
          have HQ := Lib.hid q
          have HBW := Lib.hid hBW
          have HWLT := Lib.hid hwlt
          have HK4 := Lib.hid (show ∀ x, K4 = some x → x < w4.heap.size from HF4.out.lt)
          have HG4 := Lib.hid HF4.out.glt
          have HF5 := Lib.hid (HF4.out.tw HT.out)
          have HAV' := Lib.hid (hav _ _ _ _ HR'.out)
          have HKG := Lib.hid (show ∀ x, K4 = some x → g < x from fun x hx => by
            have h1 := hK4 x hx
            have := HF2.out.glt; have := HB3.out.size; omega)
          have HRX := Lib.hid (HR.out.below hBW)
          have HRY := Lib.hid (HR'.out.below hBW)
          have HRF := Lib.hid (rfeed_any (w := wr) (s := newSt) (a := a) (b := b) (c := c) (d := d) (e := e) (f := f) none 0 0 (RdB.nil _ _ _ ⟨by omega, fun _ => rfl⟩) A m cap xs HRX.out (by have h1 : newSt.kept.length = 0 := rfl; have := HM.out; have := HML.out; omega) (by have h1 : newSt.frames = 0 := rfl; have := HM.out; have := HML.out; omega))
          rw [← HRR.out] at HRF
          have q0 := q 0 _ rfl
          have q1 := q 1 _ rfl
          have q2 := q 2 _ rfl
          have q3 := q 3 _ rfl
          have q4 := q 4 _ rfl
          have q5 := q 5 _ rfl
          clear hB4 hBW hK4 q hwlt hav
          go_wp2_with fail
          refine HRF.out.mono ?_
          rintro r w5 ⟨A5, m5, c5, v5, rfl, hr5, hf5, hE5, hb5⟩
          have hba5 := below_alloc (Below.refl w5.heap.size w5) (.cells #[.bool a, .bool b, .bool c, .bool d, .bool e, .bool f, .slice A5 m5 c5, .int .i64 R.1.len, .bool R.1.closed, .int .i64 R.1.frames] 56)
          have hb5a := below_then' hb5 hba5
          have HRF2 := Lib.hid (rfeed_any (w := w5.alloc (.cells #[.bool a, .bool b, .bool c, .bool d, .bool e, .bool f, .slice A5 m5 c5, .int .i64 R.1.len, .bool R.1.closed, .int .i64 R.1.frames] 56)) (s := R.1) (a := a) (b := b) (c := c) (d := d) (e := e) (f := f) A5 m5 c5 (hr5.below hba5) A' m' cap' ys (HRY.out.below hb5a) (by have := HCNT.out; have := HM.out; have := HML.out; omega) (by have := HCNT.out; have := HM.out; have := HML.out; omega))
          have HB5 := Lib.hid hb5a
          clear hr5 hf5 hE5 hb5 hba5 hb5a q0 q1 q2 q3 q4 q5 HRF
          go_wp2_with fail
          refine HRF2.out.mono ?_
          rintro r w6 ⟨A6, m6, c6, v6, rfl, hr6, hf6, hE6, hb6⟩
          obtain ⟨Q, hQ⟩ : ∃ Q, Q = feed b R.1 ys := ⟨_, rfl⟩
          have hqc := (feed_count b ys R.1).2
          rw [← hQ] at hE6 hqc ⊢
          have HQL := Lib.hid (show Q.2.length ≤ 1500 by have := HM.out; have := HML.out; omega)
          have HQQ := Lib.hid hQ
          have HE6 := Lib.hid hE6
          have hb6a := below_then' HB5.out hb6
          have HB6 := Lib.hid hb6a
          have HS5 := Lib.hid (HB5.out.size)
          have p : ∀ (j : Nat) (u : Value), (#[.bool a, .bool b, .bool c, .bool d, .bool e, .bool f] : Array Value)[j]? = some u → ∀ o, (w6.alloc o).cell? ⟨w.heap.size, j, none⟩ = some u := fun j u hu o => by
            rw [World.cell?_alloc_past _ _ _ (by have := hb6a.size; have := HWLT.out; show w.heap.size < w6.heap.size; omega), hb6a.cell HWLT.out]; exact HQ.out j u hu
          have p0 := p 0 _ rfl
          have p1 := p 1 _ rfl
          have p2 := p 2 _ rfl
          have p3 := p 3 _ rfl
          have p4 := p 4 _ rfl
          have p5 := p 5 _ rfl
          clear hr6 hf6 hE6 hb6 hb6a p hqc hQ HRF2
          go_wp2_with fail
          refine (set_nil a b c d e f _).mono ?_
          rintro r w7 ⟨rfl, hb7⟩
          have hb67 := below_then' (below_alloc (Below.refl _ _) _) hb7
          have HB7 := Lib.hid (below_then' HB6.out hb67)
          have HE7 := Lib.hid (HE6.out.below hb67)
          clear hb7 hb67 p0 p1 p2 p3 p4 p5
          go_wp2_with fail
          refine (HAL.out _).mono ?_
          rintro r w8 ⟨rfl, hb8⟩
          have HB8 := Lib.hid (below_then' HB7.out hb8)
          have HE8 := Lib.hid (HE7.out.below hb8)
          clear hb8
          have HFD := Lib.hid (feed_any (HF5.out.below HB8.out) A' m' cap' ys (HRY.out.below HB8.out) HAV'.out (by have := HCNT.out; have := HM.out; have := HML.out; omega) HKG.out)
          go_wp2_with fail
          refine HFD.out.mono ?_
          rintro r w9 ⟨vF, v9, K9, rfl, hE9, hF9, hch9, hnx9⟩
          rw [← HQQ.out] at hE9
          have HE9 := Lib.hid hE9
          have HCH9 := Lib.hid hch9
          have HW9 := Lib.hid (HE8.out.ch (by have := HG4.out; have := HT.out.size; have := HS5.out; omega) (fun x hx => by have := HK4.out x hx; have := HT.out.size; have := HS5.out; omega) hch9)
          clear hE9 hF9 hch9 hnx9 HFD
          go_wp2_with fail
          refine (back_evs HE9.out (by have := HQL.out; omega)).mono ?_
          rintro r w10 ⟨vB, rfl, hE10, hb10⟩
          have HE10 := Lib.hid hE10
          have HB10 := Lib.hid hb10
          have HW10 := Lib.hid (HW9.out.below hb10)
          clear hE10 hb10
          go_wp2_with fail
          refine (same_sw HE10.out HW10.out (by have := HQL.out; omega)).mono ?_
          rintro r w11 ⟨rfl, hb11⟩
          have HB11 := Lib.hid (below_then' HB10.out hb11)
          clear hb11
          go_wp2_with fail
          refine (feed_nil A m cap _ hm63).mono ?_
          rintro r w12 ⟨rfl, hb12⟩
          have HB12' := Lib.hid (below_then' HB11.out hb12)
          clear hb12
          go_wp2_with fail
          refine (closed_nil _).mono ?_
          rintro r w13 ⟨rfl, hb13⟩
          have HB13 := Lib.hid (below_then' HB12'.out hb13)
          clear hb13
          go_wp2_with fail
          refine (close_nil _).mono ?_
          rintro r w14 ⟨rfl, hb14⟩
          have HB14 := Lib.hid (below_then' HB13.out hb14)
          clear hb14
          go_wp2_with fail
          refine (held_nil _).mono ?_
          rintro r w15 ⟨rfl, hb15⟩
          have HB15 := Lib.hid (below_then' HB14.out hb15)
          clear hb15
          go_wp2_with fail
          refine (frames_nil _).mono ?_
          rintro r w16 ⟨rfl, hb16⟩
          have HB16 := Lib.hid (below_then' HB15.out hb16)
          clear hb16
          go_wp2_with fail
          go_ret
          refine ⟨rfl, ?_⟩
          have h1 := (HBW.out.trans (HB8.out.mono HBW.out.size))
          refine h1.trans ((HCH9.out.below HB16.out).bel h1.size (by have := HG.out; omega) (fun k hk => ?_))
          have := HKG.out k hk
          have := HG.out
          omega

set_option maxRecDepth 100000 in
theorem nil_any (a b c d e f : Bool) (A : Option Addr) (m cap : Nat) (xs : List Int) (A' : Option Addr) (m' cap' : Nat) (ys : List Int) (w : World) (hr : m ≤ maxB → RdB w (.slice A m cap) xs) (hr' : m' ≤ maxB → RdB w (.slice A' m' cap') ys) :
    Calls Try.prog 11 #[.agg #[.bool a, .bool b, .bool c, .bool d, .bool e, .bool f], .slice A m cap, .slice A' m' cap'] w (RB true w) := by
  cases hf : fewB [m, m'] with
  | false => exact nil_few a b c d e f A m cap A' m' cap' w hf
  | true =>
    have hs : m + m' ≤ 1500 := by have := (fewB_sum hf).1; simpa using this
    exact nil_walk a b c d e f A m cap xs A' m' cap' ys w (hr (by unfold maxB; omega)) (hr' (by unfold maxB; omega)) hf

end Go.Proofs.Ytdiiolbkjmhmdaa
