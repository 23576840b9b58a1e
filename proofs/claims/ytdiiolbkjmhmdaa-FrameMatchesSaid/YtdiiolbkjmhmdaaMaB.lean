/- The law FrameMatches. -/
import Derived.Test.YtdiiolbkjmhmdaaMaA
import Derived.Test.YtdiiolbkjmhmdaaFrX
namespace Go.Proofs.Ytdiiolbkjmhmdaa
open Go.RowKit
set_option linter.unusedSimpArgs false
set_option linter.unusedVariables false

set_option maxRecDepth 100000 in
set_option maxHeartbeats 8000000 in
theorem matches_any (a b c d e f : Bool) (A : Option Addr) (n cap : Nat) (os : List Opr) (w : World) (h : ArgO w A n os) (hn : n ≤ 4000000000000) :
    Calls Try.prog 10 #[.agg #[.bool a, .bool b, .bool c, .bool d, .bool e, .bool f], .slice A n cap] w (RB true w) := by
  have HAL := Lib.hid (fun W : World => aliveF_any W)
  have hn63 : (n : Int) ≤ 9223372036854775807 := by omega
  have HN := Lib.hid hn
  have HAO := Lib.hid h
  clear h hn
  go_enter Try.func10, Try.ntmps10
  obtain ⟨W0, hW0⟩ : ∃ W0, W0 = w.alloc (.cells #[.bool a, .bool b, .bool c, .bool d, .bool e, .bool f] 23) := ⟨_, rfl⟩
  have hb0 : Below w.heap.size w W0 := by rw [hW0]; exact below_alloc (Below.refl _ _) _
  have hs0 : W0.heap.size = w.heap.size + 1 := by rw [hW0]; simp
  have kk : ∀ (j : Nat) (u : Value), (#[.bool a, .bool b, .bool c, .bool d, .bool e, .bool f] : Array Value)[j]? = some u → W0.cell? ⟨w.heap.size, j, none⟩ = some u := fun j u hu => by
    rw [hW0, World.cell?_alloc_at _ _ _ _ rfl]; exact hu
  have HW0 := Lib.hid hW0
  have HB0 := Lib.hid hb0
  have HS0 := Lib.hid hs0
  have HKK := Lib.hid kk
  clear hW0 hb0 hs0 kk
  go_wp2_with fail
  go_loopw [5, 15] (fun t i wr => ∃ (j : Nat) (cs : List Value), j ≤ n ∧ i = .int .i64 j ∧ wr.ownsRow W0.heap.size 24 1 t j cs ∧ (∀ k x, k < j → os[k]? = some x → ∃ B c, cs[k]? = some (.slice B x.l c)) ∧ Below W0.heap.size W0 wr) (fun _ i _ => n - (intOf i).toNat)
  case atStart => exact ⟨0, [], by omega, rfl, own_nil _ _ _ _, fun k x hk => absurd hk (by omega), by rw [← HW0.out]; exact Below.refl _ _⟩
  case round =>
    obtain ⟨j, cs, hj, rfl, hown, hcs, hb⟩ := hrel
    obtain ⟨Ap, cp, rfl⟩ := own_form hown
    have HOW := Lib.hid hown
    have HCS := Lib.hid hcs
    have HB := Lib.hid hb
    clear hown hcs hb
    by_cases hlt : j < n
    · have jn : (j : Int) < n := by omega
      obtain ⟨ga, oa, eA, hga, hops⟩ := HAO.out.2 (by omega)
      subst eA
      have hjo : j < os.length := by rw [HAO.out.1]; exact hlt
      obtain ⟨x, hx⟩ : ∃ x, os[j]? = some x := ⟨_, List.getElem?_eq_getElem hjo⟩
      obtain ⟨B, cB, k0, k1, k2, k3, k4, k5, k6, k7, _⟩ := hops j x hx
      have hbw : Below w.heap.size w wr := HB0.out.trans (HB.out.mono (by have := HS0.out; omega))
      rw [← hbw.cell (by exact hga)] at k0 k1 k2 k3 k4 k5 k6 k7
      have HX := Lib.hid hx
      obtain ⟨l, hl⟩ : ∃ l, l = x.l := ⟨_, rfl⟩
      rw [← hl] at k1
      have HL := Lib.hid hl
      have HNN := Lib.hid hlt
      clear hga hops hjo hx hbw hl
      obtain ⟨iB, hiB, hz0, hz1, hz2⟩ := info_parts Try.infoS
      go_wp2_with (at_builtin; refine stop_hereO ?_)
      refine Lib.hid ?_
      refine append_cell rfl _ _ 62 rfl 24 iB (.slice none 0 0) 24 Try.underlying62 hiB hz0 hz1 hz2 rfl W0 (below_alloc (below_alloc HB.out _) _) _ j cs rfl (own_below (own_below HOW.out (below_alloc (Below.refl _ _) _)) (below_alloc (Below.refl _ _) _)) _ 1 (.slice B l cB) rfl (by rw [World.cell?_alloc_at _ _ _ _ (by simp)]; rfl) rfl ?c3 ?c4 ?_
      case c3 => have := HN.out; have := HNN.out; unfold maxLen; omega
      case c4 => have := HN.out; have := HNN.out; omega
      intro v' w2 ho2 hb2
      have HO2 := Lib.hid ho2
      have HB2 := Lib.hid hb2
      clear ho2 hb2
      go_wp2_with fail
      go_round
      case rel =>
        refine ⟨j + 1, cs ++ [.slice B l cB], by omega, by go_num, HO2.out, fun k y hk hy => ?_, HB2.out⟩
        have hlen : cs.length = j := by have := HOW.out.1; omega
        by_cases hkj : k < j
        · obtain ⟨B', c', h1⟩ := HCS.out k y hkj hy
          exact ⟨B', c', by rw [List.getElem?_append_left (by omega)]; exact h1⟩
        · obtain rfl : k = j := by omega
          rw [HX.out] at hy
          injection hy with hy
          subst hy
          exact ⟨B, cB, by rw [List.getElem?_append_right (by omega), hlen, HL.out]; simp⟩
      case measure => simp [intOf]; omega
    · have jn : ¬ (j : Int) < n := by omega
      obtain rfl : j = n := by omega
      have q : ∀ (k : Nat) (u : Value), (#[.bool a, .bool b, .bool c, .bool d, .bool e, .bool f] : Array Value)[k]? = some u → wr.cell? ⟨w.heap.size, k, none⟩ = some u := fun k u hu => by
        rw [HB.out.cell (by have := HS0.out; show w.heap.size < W0.heap.size; omega)]; exact HKK.out k u hu
      have hb1 : Below w.heap.size w wr := HB0.out.trans (HB.out.mono (by have := HS0.out; omega))
      have hs1 : w.heap.size + 1 ≤ wr.heap.size := by have := HB.out.size; have := HS0.out; omega
      have HQ := Lib.hid q
      have HB1 := Lib.hid hb1
      have HS1 := Lib.hid hs1
      have q0 := q 0 _ rfl
      have q1 := q 1 _ rfl
      have q2 := q 2 _ rfl
      have q3 := q 3 _ rfl
      have q4 := q 4 _ rfl
      have q5 := q 5 _ rfl
      have HFW := Lib.hid (fun W (hbW : Below wr.heap.size wr W) => few_any W Ap cp (os.map Opr.l) j (by rw [List.length_map]; exact HAO.out.1.symm) (fun hp => by
        rcases HOW.out.2 with ⟨e1, e2⟩ | ⟨gp, capp, cur, e1, _, hgp, _⟩
        · omega
        · injection e1 with e1 e2 e3
          refine ⟨gp, 0, e1, Nat.lt_of_lt_of_le (Array.getElem?_eq_some_iff.1 hgp).1 hbW.size, fun i hi => ?_⟩
          obtain ⟨x, hx⟩ : ∃ x, os[i]? = some x := ⟨_, List.getElem?_eq_getElem (by rw [HAO.out.1]; exact hi)⟩
          obtain ⟨B, cB, h1⟩ := HCS.out i x hi hx
          have h2 := HOW.out.cells (g := gp) (by rw [e1]; rfl) i _ h1
          rw [add_plain', Nat.zero_add] at h2
          rw [Nat.zero_add, hbW.cell (by exact (Array.getElem?_eq_some_iff.1 hgp).1)]
          refine ⟨B, cB, ?_⟩
          have e4 : (os.map Opr.l).getD i 0 = x.l := by simp [List.getD_eq_getElem?_getD, hx]
          rw [e4]; exact h2) hn63)
      clear q hb1 hs1
      go_wp2_with fail
      refine (new_fr a b c d e f _).mono ?_
      rintro r w2 ⟨g, rfl, hg, hb2, hF⟩
      have HG := Lib.hid (show w.heap.size + 1 ≤ g by have := HS1.out; omega)
      have HB2 := Lib.hid hb2
      have HF := Lib.hid hF
      clear hg hb2 hF q0 q1 q2 q3 q4 q5
      go_wp2_with fail
      refine (HFW.out _ HB2.out).mono ?_
      rintro r w3 ⟨rfl, hb3⟩
      have HB3 := Lib.hid (below_then' HB2.out hb3)
      have HB23 := Lib.hid hb3
      clear hb3
      cases hf : fewB (os.map Opr.l) with
      | false =>
        clear hf
        go_wp2_with fail
        refine (HAL.out _).mono ?_
        rintro r w4 ⟨rfl, hb4⟩
        have HB4 := Lib.hid (below_then' HB3.out hb4)
        clear hb4
        go_wp2_with fail
        go_ret
        exact ⟨rfl, below_then' HB1.out HB4.out⟩
      | true =>
        have hsum := fewB_sum hf
        rw [List.length_map, HAO.out.1] at hsum
        have HSUM := Lib.hid hsum
        have HOB := Lib.hid (show ∀ W, Below w.heap.size w W → 0 < j → ∃ ga oa, A = some ⟨ga, oa, none⟩ ∧ ga < w.heap.size ∧ ∀ i x, os[i]? = some x → OpB W ga (oa + i * 8) x ∧ (∀ B c, W.cell? ⟨ga, oa + i * 8 + 1, none⟩ = some (.slice B x.l c) → RdB w (.slice B x.l c) x.bs) from fun W hbW hp => by
          obtain ⟨ga, oa, eA, hga, hops⟩ := HAO.out.2 hp
          refine ⟨ga, oa, eA, hga, fun i x hx => ?_⟩
          obtain ⟨B, cB, k0, k1, k2, k3, k4, k5, k6, k7, hrd⟩ := hops i x hx
          have hxl : x.l ≤ maxB := by
            have h1 := sl_succ hx
            have h2 := sl_le os (i + 1)
            unfold maxB; omega
          have hr := hrd hxl
          rw [← hbW.cell (by exact hga)] at k0 k1 k2 k3 k4 k5 k6 k7
          exact ⟨⟨B, cB, k0, k1, k2, k3, k4, k5, k6, k7, hr.below hbW⟩, fun B' c' h1 => by
            rw [k1] at h1
            injection h1 with h1
            rw [← h1]; exact hr⟩)
        have p : ∀ (k : Nat) (u : Value), (#[.bool a, .bool b, .bool c, .bool d, .bool e, .bool f] : Array Value)[k]? = some u → w3.cell? ⟨w.heap.size, k, none⟩ = some u := fun k u hu => by
          rw [HB3.out.cell (by have := HS1.out; show w.heap.size < wr.heap.size; omega)]; exact HQ.out k u hu
        have p0 := p 0 _ rfl
        have p1 := p 1 _ rfl
        have p2 := p 2 _ rfl
        have p3 := p 3 _ rfl
        have p4 := p 4 _ rfl
        have p5 := p 5 _ rfl
        have hB03 : Below (w.heap.size + 1) W0 w3 := by
          have h1 : Below W0.heap.size W0 w3 := below_then' HB.out HB3.out
          rw [HS0.out] at h1; exact h1
        have HB03 := Lib.hid hB03
        have HG3 := Lib.hid (show g < w3.heap.size by have := HF.out.glt; have := HB23.out.size; omega)
        have HF3 := Lib.hid (HF.out.below HB23.out)
        clear hf hsum p hB03
        go_wp2_with fail
        obtain ⟨M, hM⟩ : ∃ M, M = w3.heap.size := ⟨_, rfl⟩
        have hgM : g < M := by rw [hM]; exact HG3.out
        have HGM := Lib.hid hgM
        have hst : MSt (w.heap.size + 1) g M W0 (w3.alloc (.cells #[.bool a, .bool b, .bool c, .bool d, .bool e, .bool f, .slice none 0 0, .int .i64 0, .bool false, .int .i64 0] 56)) none (.slice none 0 0) a b c d e f newSt none 0 0 := by
          refine ⟨HF3.out.below (below_alloc (Below.refl _ _) _), ⟨?_, fun k => ?_⟩, RdB.nil _ _ _ ⟨by omega, fun _ => rfl⟩, Av.zero _ _ _, Av.zero _ _ _, nofun, HB03.out.trans ((below_alloc (Below.refl _ _) _).mono (by have := HG3.out; have := HG.out; omega))⟩
          · rw [hM]; exact BlkIs.new _ _ _
          · rw [hM, World.frozen?_alloc_at _ _ _ _ rfl]
        have HST := Lib.hid hst
        have hj60 : j ≤ 60 := HSUM.out.2
        rw [← hM]
        clear hst hgM p0 p1 p2 p3 p4 p5 hM
        go_loopw [43] (fun t wr2 => ∃ (i2 : Nat) (K : Option Nat) (v : Value) (a1 b1 c1 d1 e1 f1 : Bool) (S : St) (Ak : Option Addr) (mk ck : Nat), i2 ≤ j ∧ t = .int .i64 i2 ∧ MSt (w.heap.size + 1) g M W0 wr2 K v a1 b1 c1 d1 e1 f1 S Ak mk ck ∧ S.kept.length ≤ sl os i2 ∧ 0 ≤ S.frames ∧ S.frames ≤ sl os i2) (fun t _ => j - (intOf t).toNat)
        case atStart => exact ⟨0, none, _, a, b, c, d, e, f, newSt, none, 0, 0, by omega, rfl, HST.out, by simp [newSt], by simp [newSt], by simp [newSt]⟩
        case round =>
          obtain ⟨i2, K, v, a1, b1, c1, d1, e1, f1, S, Ak, mk, ck, hi2, rfl, hst, hk1, hk2, hk3⟩ := hrel
          have HST2 := Lib.hid hst
          have HKB := Lib.hid (And.intro hk1 (And.intro hk2 hk3))
          clear hst hk1 hk2 hk3
          by_cases hlt : i2 < j
          · have jn : (i2 : Int) < j := by omega
            have hbW : Below w.heap.size w wr := HB0.out.trans (HST2.out.bel.mono (by omega))
            obtain ⟨ga, oa, eA, hga, hops⟩ := HOB.out wr hbW (by omega)
            subst eA
            have hjo : i2 < os.length := by rw [HAO.out.1]; exact hlt
            obtain ⟨x, hx⟩ : ∃ x, os[i2]? = some x := ⟨_, List.getElem?_eq_getElem hjo⟩
            obtain ⟨⟨B, cB, k0, k1, k2, k3, k4, k5, k6, k7, hrB⟩, hrw⟩ := hops i2 x hx
            have hrBw := hrw B cB k1
            have hslx := sl_succ hx
            have hsle := sl_le os (i2 + 1)
            have HX := Lib.hid hx
            obtain ⟨kd, hkd⟩ : ∃ kd, kd = x.k := ⟨_, rfl⟩
            obtain ⟨l, hl⟩ : ∃ l, l = x.l := ⟨_, rfl⟩
            obtain ⟨bs, hbs⟩ : ∃ bs, bs = x.bs := ⟨_, rfl⟩
            obtain ⟨xa, hxa⟩ : ∃ q, q = x.a := ⟨_, rfl⟩
            obtain ⟨xb, hxb⟩ : ∃ q, q = x.b := ⟨_, rfl⟩
            obtain ⟨xc, hxc⟩ : ∃ q, q = x.c := ⟨_, rfl⟩
            obtain ⟨xd, hxd⟩ : ∃ q, q = x.d := ⟨_, rfl⟩
            obtain ⟨xe, hxe⟩ : ∃ q, q = x.e := ⟨_, rfl⟩
            obtain ⟨xf, hxf⟩ : ∃ q, q = x.f := ⟨_, rfl⟩
            rw [← hkd] at k0
            rw [← hl] at k1 hrB hrBw hslx
            rw [← hbs] at hrB hrBw
            rw [← hxa] at k2
            rw [← hxb] at k3
            rw [← hxc] at k4
            rw [← hxd] at k5
            rw [← hxe] at k6
            rw [← hxf] at k7
            have hlb := hrB.len.1
            have HSL := Lib.hid (show sl os (i2 + 1) = sl os i2 + l ∧ sl os i2 + l ≤ 1500 ∧ l = bs.length from ⟨hslx, by have := HSUM.out.1; omega, hlb⟩)
            have HRB := Lib.hid hrB
            have HRBW := Lib.hid hrBw
            have HLX := Lib.hid hl
            have hMlt := HST2.out.var.1.1
            have z : ∀ (k : Nat) (u : Value), [Value.bool a1, .bool b1, .bool c1, .bool d1, .bool e1, .bool f1, .slice Ak mk ck, .int .i64 S.len, .bool S.closed, .int .i64 S.frames][k]? = some u → ∀ o, (wr.alloc o).cell? ⟨M, k, none⟩ = some u := fun k u hu o => by
              rw [World.cell?_alloc_past _ _ _ (by exact hMlt)]; exact HST2.out.var.1.2 k u hu
            have z0 := z 0 _ rfl
            have z1 := z 1 _ rfl
            have z2 := z 2 _ rfl
            have z3 := z 3 _ rfl
            have z4 := z 4 _ rfl
            have z5 := z 5 _ rfl
            have z6 := z 6 _ rfl
            have z7 := z 7 _ rfl
            have z8 := z 8 _ rfl
            have z9 := z 9 _ rfl
            have HZ := Lib.hid z
            have zf : ∀ (o : Obj) (k : Nat), (wr.alloc o).frozen? ⟨M, k, none⟩ = false := fun o k => by rw [World.frozen?_alloc_past _ _ _ (by exact hMlt)]; exact HST2.out.var.2 k
            have HZF := Lib.hid zf
            have HML := Lib.hid hMlt
            have hne1' : ¬ M = wr.heap.size := by omega
            have hne2' : ¬ wr.heap.size = M := by omega
            clear hbW hga hops hjo hx hrB hrw hrBw hslx hsle hkd hl hbs hxa hxb hxc hxd hxe hxf hlb z
            by_cases hk0 : kd = 0
            · have kz : (kd == 0) = true := by simp [hk0]
              clear hk0
              obtain ⟨FD, hFD⟩ : ∃ FD, FD = feed b1 S bs := ⟨_, rfl⟩
              have hRF := rfeed_any (w := wr.alloc (.cells #[.int .i64 kd, .slice B l cB, .bool xa, .bool xb, .bool xc, .bool xd, .bool xe, .bool xf] 71)) (s := S) (a := a1) (b := b1) (c := c1) (d := d1) (e := e1) (f := f1) Ak mk ck (HST2.out.rd.below (below_alloc (Below.refl _ _) _)) B l cB bs (HRB.out.below (below_alloc (Below.refl _ _) _)) (by have := HSL.out; have := HKB.out; omega) (by have := HSL.out; have := HKB.out; omega)
              rw [← hFD] at hRF
              have hfl := feed_len b1 bs S
              have hfc := feed_count b1 bs S
              rw [← hFD] at hfl hfc
              have HRF := Lib.hid hRF
              have HFL := Lib.hid (show FD.1.kept.length ≤ sl os (i2 + 1) ∧ 0 ≤ FD.1.frames ∧ FD.1.frames ≤ sl os (i2 + 1) ∧ FD.2.length ≤ 1500 by
                have hcl : FD.2.countP (fun e => decide (e.va = 0)) ≤ FD.2.length := List.countP_le_length
                have := HSL.out; have := HKB.out; omega)
              have HFDD := Lib.hid hFD
              clear hRF hfl hfc hFD
              go_wp2_with fail
              refine HRF.out.mono ?_
              rintro r w5 ⟨A5, m5, c5, v5, rfl, hr5, hf5, hE5, hb5⟩
              have hwa := below_alloc (Below.refl wr.heap.size wr) (.cells #[.int .i64 kd, .slice B l cB, .bool xa, .bool xb, .bool xc, .bool xd, .bool xe, .bool xf] 71)
              have HB5 := Lib.hid (below_then' hwa hb5)
              have y : ∀ (k : Nat) (u : Value), [Value.bool a1, .bool b1, .bool c1, .bool d1, .bool e1, .bool f1, .slice Ak mk ck, .int .i64 S.len, .bool S.closed, .int .i64 S.frames][k]? = some u → w5.cell? ⟨M, k, none⟩ = some u := fun k u hu => by
                rw [hb5.cell (by have := HML.out; simp; omega)]; exact HZ.out k u hu _
              have y0 := y 0 _ rfl
              have y1 := y 1 _ rfl
              have y2 := y 2 _ rfl
              have y3 := y 3 _ rfl
              have y4 := y 4 _ rfl
              have y5 := y 5 _ rfl
              have y6 := y 6 _ rfl
              have y7 := y 7 _ rfl
              have y8 := y 8 _ rfl
              have y9 := y 9 _ rfl
              have yf : ∀ k : Nat, w5.frozen? ⟨M, k, none⟩ = false := fun k => by rw [hb5.frozen (by have := HML.out; simp; omega)]; exact HZF.out _ k
              have c1' : w5.cell? ⟨wr.heap.size, 1, none⟩ = some (.slice B l cB) := by rw [hb5.cell (by simp), World.cell?_alloc_at _ _ _ _ rfl]; rfl
              have hs5 : wr.heap.size < w5.heap.size := by have := hb5.size; simp at this; omega
              have HR5 := Lib.hid hr5
              have HF5 := Lib.hid (show Fs wr.heap.size A5 m5 ∨ (A5 = Ak ∧ m5 = mk) from hf5.imp (fun h => h.mono (by simp)) id)
              have HE5 := Lib.hid hE5
              have hcR := RSet.ch M none a1 b1 c1 d1 e1 f1 A5 m5 c5 FD.1 w5
              have hFrR := (HST2.out.fr.below HB5.out).chO hcR (by have := HGM.out; omega) (fun k hk => by have := HST2.out.kM k hk; omega)
              have havB : Av g K B l := fun hp q hq => by
                obtain ⟨gm, om, e9, hltm⟩ := HRBW.out.lt hp
                rw [e9] at hq; injection hq with hq; rw [← hq]
                have := HG.out
                have := HGM.out
                exact ⟨by show gm ≠ g; omega, fun e => by have := HST2.out.kM gm e.symm; omega⟩
              have havBM : Av M none B l := fun hp q hq => by
                obtain ⟨gm, om, e9, hltm⟩ := HRBW.out.lt hp
                rw [e9] at hq; injection hq with hq; rw [← hq]
                have := HG.out
                have := HGM.out
                exact ⟨by show gm ≠ M; omega, nofun⟩
              have hFE := feed_any hFrR B l cB bs ((HRB.out.below HB5.out).ch havBM hcR) havB (by have := HSL.out; have := HKB.out; omega) (fun k hk => by have := HST2.out.kM k hk; have := HGM.out; omega)
              have HFE := Lib.hid hFE
              have HCR := Lib.hid hcR
              have HKL := Lib.hid HST2.out.fr.lt
              have HGL := Lib.hid HST2.out.fr.glt
              clear hwa hb5 y hr5 hf5 hE5 hcR hFrR havB havBM hFE z0 z1 z2 z3 z4 z5 z6 z7 z8 z9 zf
              go_wp2_with fail
              refine HFE.out.mono ?_
              rintro r w7 ⟨vE, v7, K7, rfl, hE7, hF7, hch7, hnx7⟩
              rw [← HFDD.out] at hE7 hF7
              have HE7 := Lib.hid hE7
              have HF7 := Lib.hid hF7
              have HCH7 := Lib.hid hch7
              have HNX7 := Lib.hid hnx7
              have HW7 := Lib.hid ((HE5.out.ch (g := M) (K := none) (by have := HML.out; simp; omega) nofun HCR.out).ch (g := g) (K := K) (by have := HGL.out; simp; omega) (fun k hk => by have := HKL.out k hk; simp; omega) hch7)
              clear hE7 hF7 hch7 hnx7 HFE y0 y1 y2 y3 y4 y5 y6 y7 y8 y9 yf c1' hs5
              go_wp2_with fail
              refine (back_evs HE7.out (by have := HFL.out; omega)).mono ?_
              rintro r w8 ⟨vB, rfl, hE8, hb8⟩
              have HE8 := Lib.hid hE8
              have HB8 := Lib.hid hb8
              have HW8 := Lib.hid (HW7.out.below hb8)
              clear hE8 hb8
              go_wp2_with fail
              refine (same_sw HE8.out HW8.out (by have := HFL.out; omega)).mono ?_
              rintro r w9 ⟨rfl, hb9⟩
              have HB9 := Lib.hid (below_then' HB8.out hb9)
              clear hb9
              have HMZ := Lib.hid (HST2.out.feed HG.out HGM.out HB5.out HR5.out HF5.out HF7.out HCH7.out HNX7.out HB9.out)
              obtain ⟨Sx, hSx⟩ : ∃ Sx, Sx = fun w' => Below w9.heap.size w9 w' := ⟨_, rfl⟩
              have HSP := Lib.hid (show ∀ x, Sx x → Below w9.heap.size w9 x by rw [hSx]; exact fun _ h => h)
              have HDRW := Lib.hid (show Sx w9.drew by rw [hSx]; exact (Below.refl _ _).drew)
              have HXX := Lib.hid (show ∀ x1 x2, Sx x1 → Below x1.heap.size x1 x2 → Sx x2 from by rw [hSx]; exact fun x1 x2 h hb => below_then' h hb)
              have HPB := Lib.hid (show ∀ p : Wld Sx, Below w9.heap.size w9 p.w from fun p => HSP.out _ p.ok)
              have hmz := HMZ.out.rd.len.1
              have HHD := Lib.hid (fun p : Wld Sx => show Calls Try.prog 32 #[.pointer (some ⟨g, 0, none⟩)] p.w (RV (.int .i64 m5) p.w) from by
                have hh := held_any (HMZ.out.fr.below (HPB.out p))
                rw [← hmz] at hh
                exact hh)
              have HCD := Lib.hid (fun p : Wld Sx => show Calls Try.prog 33 #[.pointer (some ⟨g, 0, none⟩)] p.w (RB (FD.1).closed p.w) from closed_any (HMZ.out.fr.below (HPB.out p)))
              have HFD := Lib.hid (fun p : Wld Sx => show Calls Try.prog 41 #[.pointer (some ⟨g, 0, none⟩)] p.w (RV (.int .i64 (FD.1).frames) p.w) from frames_any (HMZ.out.fr.below (HPB.out p)))
              have hcM : ∀ (p : Wld Sx) (k : Nat) (u : Value), w9.cell? ⟨M, k, none⟩ = some u → p.w.cell? ⟨M, k, none⟩ = some u := fun p k u hu => by rw [(HPB.out p).cell HMZ.out.var.1.1]; exact hu
              have m6 : ∀ p : Wld Sx, p.w.cell? ⟨M, 6, none⟩ = some (.slice A5 m5 c5) := fun p => hcM p 6 _ (HMZ.out.var.1.2 6 _ rfl)
              have m8 : ∀ p : Wld Sx, p.w.cell? ⟨M, 8, none⟩ = some (.bool (FD.1).closed) := fun p => hcM p 8 _ (HMZ.out.var.1.2 8 _ rfl)
              have m9 : ∀ p : Wld Sx, p.w.cell? ⟨M, 9, none⟩ = some (.int .i64 (FD.1).frames) := fun p => hcM p 9 _ (HMZ.out.var.1.2 9 _ rfl)
              have e1 : ((m5 : Int) != (m5 : Int)) = false := by simp
              have e2 : ((FD.1).closed != (FD.1).closed) = false := by simp
              have e3 : ((FD.1).frames != (FD.1).frames) = false := by simp
              clear hSx hmz hcM
              go_wp2_with fail
              have hne1 : Nonempty (Wld Sx) := ⟨⟨_, HDRW.out⟩⟩
              refine wp_region_sub Sx (by kernel_rfl) (by kernel_rfl) HDRW.out ?_
              repeat (quiet_step (first | (go_at_call 32; exact calls_sub HXX.out (HHD.out _)) | (go_at_call 33; exact calls_sub HXX.out (HCD.out _)) | (go_at_call 41; exact calls_sub HXX.out (HFD.out _))))
              refine wpQuiet_nil ?_
              intro _ hw'
              obtain ⟨pq, hw''⟩ := hw'
              subst hw''
              clear m6 m8 m9 e1 e2 e3
              go_wp2_with fail
              go_round
              case rel =>
                have hsl := sl_succ HX.out
                exact ⟨i2 + 1, K7, v7, a1, b1, c1, d1, e1, f1, FD.1, A5, m5, c5, by omega, by go_num, HMZ.out.below (by have := HMZ.out.bel.size; have := HS0.out; omega) (HPB.out pq), by have := HFL.out; omega, by have := HFL.out; omega, by have := HFL.out; omega⟩
              case measure => simp [intOf]; omega
            · have kz : (kd == 0) = false := by simp [hk0]
              clear hk0
              by_cases hk1 : kd = 1
              · have ky : (kd == 1) = true := by simp [hk1]
                clear hk1
                have hwa := below_alloc (Below.refl wr.heap.size wr) (.cells #[.int .i64 kd, .slice B l cB, .bool xa, .bool xb, .bool xc, .bool xd, .bool xe, .bool xf] 71)
                have HSA := Lib.hid (HST2.out.below (by have := HST2.out.bel.size; have := HS0.out; omega) hwa)
                have HSET := Lib.hid (set_any xa xb xc xd xe xf HSA.out.fr)
                clear hwa
                go_wp2_with fail
                refine HSET.out.mono ?_
                rintro r w5 ⟨rfl, hF5, hch5⟩
                have hMg : M ≠ g := by have := HGM.out; omega
                have hMK : some M ≠ K := fun e => by have := HST2.out.kM M e.symm; omega
                have hv5 := HSA.out.var.ch hch5 hMg hMK
                have y := hv5.1.2
                have y0 := y 0 _ rfl
                have y1 := y 1 _ rfl
                have y2 := y 2 _ rfl
                have y3 := y 3 _ rfl
                have y4 := y 4 _ rfl
                have y5 := y 5 _ rfl
                have yf := hv5.2
                have x : ∀ (k : Nat) (u : Value), (#[.int .i64 kd, .slice B l cB, .bool xa, .bool xb, .bool xc, .bool xd, .bool xe, .bool xf] : Array Value)[k]? = some u → w5.cell? ⟨wr.heap.size, k, none⟩ = some u := fun k u hu => by
                  rw [hch5.cell (by simp) (by have := HST2.out.fr.glt; show wr.heap.size ≠ g; omega) (fun e => by have := HST2.out.fr.lt _ e.symm; simp at this), World.cell?_alloc_at _ _ _ _ rfl]; exact hu
                have x2 := x 2 _ rfl
                have x3 := x 3 _ rfl
                have x4 := x 4 _ rfl
                have x5 := x 5 _ rfl
                have x6 := x 6 _ rfl
                have x7 := x 7 _ rfl
                have HMZ := Lib.hid (HSA.out.setO HG.out HGM.out hF5 hch5)
                obtain ⟨wz, hwz⟩ : ∃ wz, wz = RSet6 M xa xb xc xd xe xf w5 := ⟨_, rfl⟩
                rw [← hwz] at HMZ
                have HWZ := Lib.hid hwz
                clear hF5 hch5 hMg hMK hv5 y x hwz HSET z0 z1 z2 z3 z4 z5 z6 z7 z8 z9 zf
                go_upto_region 26 with fail
                rw [show (((((w5.setCell ⟨M, 0, none⟩ (.bool xa)).setCell ⟨M, 1, none⟩ (.bool xb)).setCell ⟨M, 2, none⟩ (.bool xc)).setCell ⟨M, 3, none⟩ (.bool xd)).setCell ⟨M, 4, none⟩ (.bool xe)).setCell ⟨M, 5, none⟩ (.bool xf) = wz from HWZ.out.symm]
                clear y0 y1 y2 y3 y4 y5 yf x2 x3 x4 x5 x6 x7
                obtain ⟨Sx, hSx⟩ : ∃ Sx, Sx = fun w' => Below wz.heap.size wz w' := ⟨_, rfl⟩
                have HSP := Lib.hid (show ∀ x, Sx x → Below wz.heap.size wz x by rw [hSx]; exact fun _ h => h)
                have HDRW := Lib.hid (show Sx wz.drew by rw [hSx]; exact (Below.refl _ _).drew)
                have HXX := Lib.hid (show ∀ x1 x2, Sx x1 → Below x1.heap.size x1 x2 → Sx x2 from by rw [hSx]; exact fun x1 x2 h hb => below_then' h hb)
                have HPB := Lib.hid (show ∀ p : Wld Sx, Below wz.heap.size wz p.w from fun p => HSP.out _ p.ok)
                have hmz := HMZ.out.rd.len.1
                have HHD := Lib.hid (fun p : Wld Sx => show Calls Try.prog 32 #[.pointer (some ⟨g, 0, none⟩)] p.w (RV (.int .i64 mk) p.w) from by
                  have hh := held_any (HMZ.out.fr.below (HPB.out p))
                  rw [← hmz] at hh
                  exact hh)
                have HCD := Lib.hid (fun p : Wld Sx => show Calls Try.prog 33 #[.pointer (some ⟨g, 0, none⟩)] p.w (RB (S).closed p.w) from closed_any (HMZ.out.fr.below (HPB.out p)))
                have HFD := Lib.hid (fun p : Wld Sx => show Calls Try.prog 41 #[.pointer (some ⟨g, 0, none⟩)] p.w (RV (.int .i64 (S).frames) p.w) from frames_any (HMZ.out.fr.below (HPB.out p)))
                have hcM : ∀ (p : Wld Sx) (k : Nat) (u : Value), wz.cell? ⟨M, k, none⟩ = some u → p.w.cell? ⟨M, k, none⟩ = some u := fun p k u hu => by rw [(HPB.out p).cell HMZ.out.var.1.1]; exact hu
                have m6 : ∀ p : Wld Sx, p.w.cell? ⟨M, 6, none⟩ = some (.slice Ak mk ck) := fun p => hcM p 6 _ (HMZ.out.var.1.2 6 _ rfl)
                have m8 : ∀ p : Wld Sx, p.w.cell? ⟨M, 8, none⟩ = some (.bool (S).closed) := fun p => hcM p 8 _ (HMZ.out.var.1.2 8 _ rfl)
                have m9 : ∀ p : Wld Sx, p.w.cell? ⟨M, 9, none⟩ = some (.int .i64 (S).frames) := fun p => hcM p 9 _ (HMZ.out.var.1.2 9 _ rfl)
                have e1 : ((mk : Int) != (mk : Int)) = false := by simp
                have e2 : ((S).closed != (S).closed) = false := by simp
                have e3 : ((S).frames != (S).frames) = false := by simp
                clear hSx hmz hcM
                go_wp2_with fail
                have hne1 : Nonempty (Wld Sx) := ⟨⟨_, HDRW.out⟩⟩
                refine wp_region_sub Sx (by kernel_rfl) (by kernel_rfl) HDRW.out ?_
                repeat (quiet_step (first | (go_at_call 32; exact calls_sub HXX.out (HHD.out _)) | (go_at_call 33; exact calls_sub HXX.out (HCD.out _)) | (go_at_call 41; exact calls_sub HXX.out (HFD.out _))))
                refine wpQuiet_nil ?_
                intro _ hw'
                obtain ⟨pq, hw''⟩ := hw'
                subst hw''
                clear m6 m8 m9 e1 e2 e3
                go_wp2_with fail
                go_round
                case rel =>
                  have hsl := sl_succ HX.out
                  exact ⟨i2 + 1, K, v, xa, xb, xc, xd, xe, xf, S, Ak, mk, ck, by omega, by go_num, HMZ.out.below (by have := HMZ.out.bel.size; have := HS0.out; omega) (HPB.out pq), by have := HSL.out; have := HKB.out; omega, by have := HSL.out; have := HKB.out; omega, by have := HSL.out; have := HKB.out; omega⟩
                case measure => simp [intOf]; omega
              · have ky : (kd == 1) = false := by simp [hk1]
                clear hk1
                have hwa0 := below_alloc (Below.refl wr.heap.size wr) (.cells #[.int .i64 kd, .slice B l cB, .bool xa, .bool xb, .bool xc, .bool xd, .bool xe, .bool xf] 71)
                have hsa := HST2.out.below (by have := HST2.out.bel.size; have := HS0.out; omega) hwa0
                obtain ⟨wa, hwa⟩ : ∃ wa, wa = wr.alloc (.cells #[.int .i64 kd, .slice B l cB, .bool xa, .bool xb, .bool xc, .bool xd, .bool xe, .bool xf] 71) := ⟨_, rfl⟩
                rw [← hwa] at hsa
                have HSA := Lib.hid hsa
                have HWA := Lib.hid hwa
                clear hwa0 hsa hwa
                go_upto_region 15 with fail
                rw [← HWA.out]
                clear z0 z1 z2 z3 z4 z5 z6 z7 z8 z9 zf hne1' hne2'
                go_cut [53] (fun s53 wx => s53 = .bool false ∧ ∃ (K5 : Option Nat) (v5 : Value), Fr wx g K5 v5 (shut S) a1 b1 c1 d1 e1 f1 ∧ (∀ k, K5 = some k → M < k) ∧ Ch g K wa wx)
                case first =>
                  have m8 : wa.cell? ⟨M, 8, none⟩ = some (.bool S.closed) := HSA.out.var.1.2 8 _ rfl
                  by_cases hc : S.closed = true
                  · rw [hc] at m8
                    have h8 := (HSA.out.fr.cs.2 8 (by omega)).1
                    simp only [frV, hc, if_true] at h8
                    have HCL := Lib.hid (close_done g wa.drew HSA.out.fr.glt h8)
                    have HC := Lib.hid hc
                    have HML2 := Lib.hid HSA.out.var.1.1
                    clear h8 hc
                    go_region_with (go_at_call 40; refine HCL.out.mono ?_; rintro r w5 ⟨rfl, hb5⟩; have HB5 := Lib.hid hb5; have m8' : w5.cell? ⟨M, 8, none⟩ = some (.bool true) := (hb5.cell HML2.out).trans m8; clear hb5)
                    all_goals go_wp2_with fail
                    all_goals go_meet
                    all_goals exact ⟨rfl, K, v, by
                      have hk : S.kept = [] := HSA.out.fr.ok.closed HC.out
                      have hS : shut S = S := shut_same HC.out hk
                      rw [hS]
                      exact (HSA.out.fr.below (Below.refl _ _).drew).below HB5.out, HSA.out.kM, (Ch.of (Below.refl _ _).drew).below HB5.out⟩
                  · have hc' : S.closed = false := by simpa using hc
                    rw [hc'] at m8
                    have HCL := Lib.hid (close_first g K v S a1 b1 c1 d1 e1 f1 wa.drew (HSA.out.fr.below (Below.refl _ _).drew) hc')
                    have HML2 := Lib.hid HSA.out.var.1.1
                    have HMG := Lib.hid (And.intro (show M ≠ g by have := HGM.out; omega) (show some M ≠ K from fun e => by have := HST2.out.kM M e.symm; omega))
                    clear hc hc'
                    go_region_with (go_at_call 40; refine HCL.out.mono ?_; rintro r w5 ⟨rfl, hF5, hch5⟩; have HX5 := Lib.hid (And.intro hF5 hch5); have m8' : w5.cell? ⟨M, 8, none⟩ = some (.bool false) := (hch5.cell HML2.out HMG.out.1 HMG.out.2).trans m8; clear hF5 hch5)
                    all_goals go_wp2_with fail
                    all_goals go_meet
                    all_goals exact ⟨rfl, none, _, HX5.out.1, nofun, (Ch.of (Below.refl _ _).drew).trans HX5.out.2 (Nx.refl _ _)⟩
                case rest =>
                  obtain ⟨rfl, K5, v5, hF5, hK5, hch5⟩ := hcut
                  have hMg : M ≠ g := by have := HGM.out; omega
                  have hMK : some M ≠ K := fun e => by have := HST2.out.kM M e.symm; omega
                  have hv5 := HSA.out.var.ch hch5 hMg hMK
                  have y6 := hv5.1.2 6 _ rfl
                  have y8 := hv5.1.2 8 _ rfl
                  have yf := hv5.2
                  have hmz2 := HSA.out.closeO HG.out HGM.out hF5 hK5 hch5
                  obtain ⟨S2, hS2⟩ : ∃ S2, S2 = shut S := ⟨_, rfl⟩
                  rw [← hS2] at hmz2
                  obtain ⟨wz, hwz⟩ : ∃ wz, wz = RSet2 M wc := ⟨_, rfl⟩
                  rw [← hwz] at hmz2
                  have HMZ := Lib.hid hmz2
                  have HWZ := Lib.hid hwz
                  have HSB := Lib.hid (show S2.kept.length ≤ sl os (i2 + 1) ∧ 0 ≤ S2.frames ∧ S2.frames ≤ sl os (i2 + 1) by
                    rw [hS2]
                    have := HSL.out; have := HKB.out
                    refine ⟨by simp [shut], ?_, ?_⟩
                    · show 0 ≤ S.frames; omega
                    · show S.frames ≤ _; omega)
                  clear hF5 hK5 hch5 hMg hMK hv5 hmz2 hwz hS2
                  go_upto_region 26 with fail
                  rw [show (wc.setCell ⟨M, 8, none⟩ (.bool true)).setCell ⟨M, 6, none⟩ (.slice none 0 0) = wz from HWZ.out.symm]
                  clear y6 y8 yf
                  obtain ⟨Sx, hSx⟩ : ∃ Sx, Sx = fun w' => Below wz.heap.size wz w' := ⟨_, rfl⟩
                  have HSP := Lib.hid (show ∀ x, Sx x → Below wz.heap.size wz x by rw [hSx]; exact fun _ h => h)
                  have HDRW := Lib.hid (show Sx wz.drew by rw [hSx]; exact (Below.refl _ _).drew)
                  have HXX := Lib.hid (show ∀ x1 x2, Sx x1 → Below x1.heap.size x1 x2 → Sx x2 from by rw [hSx]; exact fun x1 x2 h hb => below_then' h hb)
                  have HPB := Lib.hid (show ∀ p : Wld Sx, Below wz.heap.size wz p.w from fun p => HSP.out _ p.ok)
                  have hmz := HMZ.out.rd.len.1
                  have HHD := Lib.hid (fun p : Wld Sx => show Calls Try.prog 32 #[.pointer (some ⟨g, 0, none⟩)] p.w (RV (.int .i64 0) p.w) from by
                    have hh := held_any (HMZ.out.fr.below (HPB.out p))
                    rw [← hmz] at hh
                    exact hh)
                  have HCD := Lib.hid (fun p : Wld Sx => show Calls Try.prog 33 #[.pointer (some ⟨g, 0, none⟩)] p.w (RB (S2).closed p.w) from closed_any (HMZ.out.fr.below (HPB.out p)))
                  have HFD := Lib.hid (fun p : Wld Sx => show Calls Try.prog 41 #[.pointer (some ⟨g, 0, none⟩)] p.w (RV (.int .i64 (S2).frames) p.w) from frames_any (HMZ.out.fr.below (HPB.out p)))
                  have hcM : ∀ (p : Wld Sx) (k : Nat) (u : Value), wz.cell? ⟨M, k, none⟩ = some u → p.w.cell? ⟨M, k, none⟩ = some u := fun p k u hu => by rw [(HPB.out p).cell HMZ.out.var.1.1]; exact hu
                  have m6 : ∀ p : Wld Sx, p.w.cell? ⟨M, 6, none⟩ = some (.slice none 0 0) := fun p => hcM p 6 _ (HMZ.out.var.1.2 6 _ rfl)
                  have m8 : ∀ p : Wld Sx, p.w.cell? ⟨M, 8, none⟩ = some (.bool (S2).closed) := fun p => hcM p 8 _ (HMZ.out.var.1.2 8 _ rfl)
                  have m9 : ∀ p : Wld Sx, p.w.cell? ⟨M, 9, none⟩ = some (.int .i64 (S2).frames) := fun p => hcM p 9 _ (HMZ.out.var.1.2 9 _ rfl)
                  have e1 : ((0 : Int) != (0 : Int)) = false := by simp
                  have e2 : ((S2).closed != (S2).closed) = false := by simp
                  have e3 : ((S2).frames != (S2).frames) = false := by simp
                  clear hSx hmz hcM
                  go_wp2_with fail
                  have hne1 : Nonempty (Wld Sx) := ⟨⟨_, HDRW.out⟩⟩
                  refine wp_region_sub Sx (by kernel_rfl) (by kernel_rfl) HDRW.out ?_
                  repeat (quiet_step (first | (go_at_call 32; exact calls_sub HXX.out (HHD.out _)) | (go_at_call 33; exact calls_sub HXX.out (HCD.out _)) | (go_at_call 41; exact calls_sub HXX.out (HFD.out _))))
                  refine wpQuiet_nil ?_
                  intro _ hw'
                  obtain ⟨pq, hw''⟩ := hw'
                  subst hw''
                  clear m6 m8 m9 e1 e2 e3
                  go_wp2_with fail
                  go_round
                  case rel =>
                    have hsl := sl_succ HX.out
                    exact ⟨i2 + 1, K5, v5, a1, b1, c1, d1, e1, f1, S2, none, 0, 0, by omega, by go_num, HMZ.out.below (by have := HMZ.out.bel.size; have := HS0.out; omega) (HPB.out pq), HSB.out.1, HSB.out.2.1, HSB.out.2.2⟩
                  case measure => simp [intOf]; omega
          · have jn : ¬ (i2 : Int) < j := by omega
            go_wp2_with fail
            refine (HAL.out _).mono ?_
            rintro r w4 ⟨rfl, hb4⟩
            have HB4 := Lib.hid hb4
            clear hb4
            go_wp2_with fail
            go_ret
            exact ⟨rfl, below_then' (HB0.out.trans (HST2.out.bel.mono (by omega))) HB4.out⟩

end Go.Proofs.Ytdiiolbkjmhmdaa
