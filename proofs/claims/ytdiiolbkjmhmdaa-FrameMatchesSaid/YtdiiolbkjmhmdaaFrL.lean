/- The reference's Same over events; Back. -/
import Derived.Test.YtdiiolbkjmhmdaaFrT
import Derived.Test.YtdiiolbkjmhmdaaHdS
import Derived.Test.YtdiiolbkjmhmdaaQS
namespace Go.Proofs.Ytdiiolbkjmhmdaa
open Go.RowKit
set_option linter.unusedSimpArgs false
set_option linter.unusedVariables false

theorem stop_here' {p : Prop} (h : Hid p) : p := h
theorem EvLW.ones {w : World} {B : Nat} {cs : List Value} {es : List Ev} (h : EvLW w B cs es) : ∀ u ∈ cs, u.oneCell' = true := fun u hu => by
  obtain ⟨j, hj, e⟩ := List.mem_iff_getElem.1 hu
  have hi : j / 6 < es.length := by have := h.1; omega
  obtain ⟨F, cf, D, cd, q0, q1, q2, q3, q4, q5, -⟩ := EvW.at h (List.getElem?_eq_getElem hi)
  have e' : cs[j]? = some u := by rw [List.getElem?_eq_getElem hj, e]
  have hj6 : j = j / 6 * 6 + j % 6 := by omega
  have hm : j % 6 < 6 := by omega
  rw [hj6] at e'
  match hk : j % 6, hm with
  | 0, _ => rw [hk, Nat.add_zero, q0] at e'; injection e' with e'; rw [← e']; rfl
  | 1, _ => rw [hk, q1] at e'; injection e' with e'; rw [← e']; rfl
  | 2, _ => rw [hk, q2] at e'; injection e' with e'; rw [← e']; rfl
  | 3, _ => rw [hk, q3] at e'; injection e' with e'; rw [← e']; rfl
  | 4, _ => rw [hk, q4] at e'; injection e' with e'; rw [← e']; rfl
  | 5, _ => rw [hk, q5] at e'; injection e' with e'; rw [← e']; rfl
theorem own_part {w : World} {B : Nat} {t : TypeId} {v : Value} {cs : List Value} {n : Nat} (h1 : w.ownsRow B t 6 v n cs) (hl : cs.length = n * 6) (ho : ∀ u ∈ cs, u.oneCell' = true) : EvP w v n cs := by
  refine ⟨hl, ho, ?_⟩
  have h0 := h1
  have hc := h1.2
  rcases hc with ⟨e, hn⟩ | ⟨g', cap, cur, e, hb, hg, hcap, hr⟩
  · refine .inl ⟨e, ?_⟩
    first | exact hn | (rw [hn] at hl; simp at hl; omega)
  · exact .inr ⟨g', cap, e, hcap, (Array.getElem?_eq_some_iff.1 hg).1, fun j u hu => by have := h0.cells (g := g') (by rw [e]; rfl) j u hu; rwa [add_plain', Nat.zero_add] at this⟩

set_option maxRecDepth 100000 in
set_option maxHeartbeats 4000000 in
theorem same_evs (w : World) (v1 v2 : Value) (es : List Ev) (cs1 cs2 : List Value) (hn : es.length ≤ 1000000000000) (p1 : EvP w v1 es.length cs1) (l1 : EvLW w 0 cs1 es) (p2 : EvP w v2 es.length cs2) (l2 : EvLW w 0 cs2 es) :
    Calls Try.prog 36 #[v1, v2] w (RB true w) := by
  obtain ⟨n, hne⟩ : ∃ n, n = es.length := ⟨_, rfl⟩
  rw [← hne] at hn p1 p2
  by_cases h0 : n = 0
  · have a1 : ∃ A c, v1 = .slice A 0 c := by
      rcases p1.2.2 with ⟨e, _⟩ | ⟨g, c, e, _⟩
      · exact ⟨_, _, e⟩
      · rw [h0] at e; exact ⟨_, _, e⟩
    have a2 : ∃ A c, v2 = .slice A 0 c := by
      rcases p2.2.2 with ⟨e, _⟩ | ⟨g, c, e, _⟩
      · exact ⟨_, _, e⟩
      · rw [h0] at e; exact ⟨_, _, e⟩
    obtain ⟨A1, c1, rfl⟩ := a1
    obtain ⟨A2, c2, rfl⟩ := a2
    clear p1 p2 l1 l2 hn hne h0
    go_enter Try.func36, Try.ntmps36
    go_wp2_with fail
    refine wp_loop_rounds 2 ?_
    rw [rounds_succ]
    go_wp2_with fail
    go_ret
    exact ⟨rfl, Below.refl _ _⟩
  · obtain ⟨g1, c1, rfl, hc1, hg1, hq1⟩ : ∃ g c, v1 = .slice (some ⟨g, 0, none⟩) n c ∧ n ≤ c ∧ g < w.heap.size ∧ ∀ j u, cs1[j]? = some u → w.cell? ⟨g, j, none⟩ = some u := by
      rcases p1.2.2 with ⟨e, e0⟩ | ⟨g, c, e, hc, hg, hq⟩
      · exact absurd e0 h0
      · exact ⟨g, c, e, hc, hg, hq⟩
    obtain ⟨g2, c2, rfl, hc2, hg2, hq2⟩ : ∃ g c, v2 = .slice (some ⟨g, 0, none⟩) n c ∧ n ≤ c ∧ g < w.heap.size ∧ ∀ j u, cs2[j]? = some u → w.cell? ⟨g, j, none⟩ = some u := by
      rcases p2.2.2 with ⟨e, e0⟩ | ⟨g, c, e, hc, hg, hq⟩
      · exact absurd e0 h0
      · exact ⟨g, c, e, hc, hg, hq⟩
    have hn63 : (n : Int) ≤ 9223372036854775807 := by omega
    have HN := Lib.hid hn
    have HAT := Lib.hid (fun (i : Nat) (hi : i < n) => show ∃ (e : Ev) (F1 : Option Addr) (cf1 : Nat) (D1 : Option Addr) (cd1 : Nat) (F2 : Option Addr) (cf2 : Nat) (D2 : Option Addr) (cd2 : Nat),
      (w.cell? ⟨g1, i * 6, none⟩ = some (.slice F1 e.fr.length cf1) ∧ w.cell? ⟨g1, i * 6 + 1, none⟩ = some (.int .i64 e.va) ∧ w.cell? ⟨g1, i * 6 + 2, none⟩ = some (.int .i64 e.vb) ∧ w.cell? ⟨g1, i * 6 + 3, none⟩ = some (.int .i64 e.vc) ∧ w.cell? ⟨g1, i * 6 + 4, none⟩ = some (.slice D1 e.ds.length cd1) ∧ w.cell? ⟨g1, i * 6 + 5, none⟩ = some (.int .i64 e.ve)) ∧
      (w.cell? ⟨g2, i * 6, none⟩ = some (.slice F2 e.fr.length cf2) ∧ w.cell? ⟨g2, i * 6 + 1, none⟩ = some (.int .i64 e.va) ∧ w.cell? ⟨g2, i * 6 + 2, none⟩ = some (.int .i64 e.vb) ∧ w.cell? ⟨g2, i * 6 + 3, none⟩ = some (.int .i64 e.vc) ∧ w.cell? ⟨g2, i * 6 + 4, none⟩ = some (.slice D2 e.ds.length cd2) ∧ w.cell? ⟨g2, i * 6 + 5, none⟩ = some (.int .i64 e.ve)) ∧
      RdB w (.slice F1 e.fr.length cf1) e.fr ∧ RdB w (.slice F2 e.fr.length cf2) e.fr ∧ RdB w (.slice D1 e.ds.length cd1) e.ds ∧ RdB w (.slice D2 e.ds.length cd2) e.ds from by
        have hget : es[i]? = some (es[i]'(by omega)) := List.getElem?_eq_getElem _
        obtain ⟨F1, cf1, D1, cd1, q0, q1, q2, q3, q4, q5, r1, r2⟩ := EvW.at l1 hget
        obtain ⟨F2, cf2, D2, cd2, s0, s1, s2, s3, s4, s5, t1, t2⟩ := EvW.at l2 hget
        exact ⟨_, F1, cf1, D1, cd1, F2, cf2, D2, cd2, ⟨hq1 _ _ q0, hq1 _ _ q1, hq1 _ _ q2, hq1 _ _ q3, hq1 _ _ q4, hq1 _ _ q5⟩, ⟨hq2 _ _ s0, hq2 _ _ s1, hq2 _ _ s2, hq2 _ _ s3, hq2 _ _ s4, hq2 _ _ s5⟩, r1, t1, r2, t2⟩)
    have HG := Lib.hid (And.intro hg1 hg2)
    obtain ⟨S, hS⟩ : ∃ S, S = fun w' => Below w.heap.size w w' := ⟨_, rfl⟩
    have HSP := Lib.hid (show ∀ x, S x → Below w.heap.size w x by rw [hS]; exact fun _ h => h)
    have HSM := Lib.hid (show ∀ x, Below w.heap.size w x → S x by rw [hS]; exact fun _ h => h)
    have HX := Lib.hid (show ∀ x1 x2, S x1 → Below x1.heap.size x1 x2 → S x2 from by rw [hS]; exact fun x1 x2 h hb => below_then' h hb)
    clear p1 p2 l1 l2 hne hn hc1 hc2 hg1 hg2 hq1 hq2 hS
    go_enter Try.func36, Try.ntmps36
    go_wp2_with fail
    go_loopw [5] (fun i wr => ∃ j : Nat, j ≤ n ∧ i = .int .i64 j ∧ Below w.heap.size w wr) (fun i _ => n - (intOf i).toNat)
    case atStart => exact ⟨0, by omega, rfl, Below.refl _ _⟩
    case round =>
      obtain ⟨j, hj, rfl, hbr⟩ := hrel
      have HBR := Lib.hid hbr
      clear hbr
      by_cases hlt : j < n
      · have jn : (j : Int) < n := by omega
        obtain ⟨e, F1, cf1, D1, cd1, F2, cf2, D2, cd2, hat⟩ := HAT.out j hlt
        have HA := Lib.hid hat
        have HPB := Lib.hid (show ∀ p : Wld S, Below w.heap.size w p.w from fun p => HSP.out _ p.ok)
        have a0 : ∀ p : Wld S, p.w.cell? ⟨g1, j * 6, none⟩ = _ := fun p => ((HPB.out p).cell HG.out.1).trans HA.out.1.1
        have a1 : ∀ p : Wld S, p.w.cell? ⟨g1, j * 6 + 1, none⟩ = _ := fun p => ((HPB.out p).cell HG.out.1).trans HA.out.1.2.1
        have a2 : ∀ p : Wld S, p.w.cell? ⟨g1, j * 6 + 2, none⟩ = _ := fun p => ((HPB.out p).cell HG.out.1).trans HA.out.1.2.2.1
        have a3 : ∀ p : Wld S, p.w.cell? ⟨g1, j * 6 + 3, none⟩ = _ := fun p => ((HPB.out p).cell HG.out.1).trans HA.out.1.2.2.2.1
        have a4 : ∀ p : Wld S, p.w.cell? ⟨g1, j * 6 + 4, none⟩ = _ := fun p => ((HPB.out p).cell HG.out.1).trans HA.out.1.2.2.2.2.1
        have a5 : ∀ p : Wld S, p.w.cell? ⟨g1, j * 6 + 5, none⟩ = _ := fun p => ((HPB.out p).cell HG.out.1).trans HA.out.1.2.2.2.2.2
        have b0 : ∀ p : Wld S, p.w.cell? ⟨g2, j * 6, none⟩ = _ := fun p => ((HPB.out p).cell HG.out.2).trans HA.out.2.1.1
        have b1 : ∀ p : Wld S, p.w.cell? ⟨g2, j * 6 + 1, none⟩ = _ := fun p => ((HPB.out p).cell HG.out.2).trans HA.out.2.1.2.1
        have b2 : ∀ p : Wld S, p.w.cell? ⟨g2, j * 6 + 2, none⟩ = _ := fun p => ((HPB.out p).cell HG.out.2).trans HA.out.2.1.2.2.1
        have b3 : ∀ p : Wld S, p.w.cell? ⟨g2, j * 6 + 3, none⟩ = _ := fun p => ((HPB.out p).cell HG.out.2).trans HA.out.2.1.2.2.2.1
        have b4 : ∀ p : Wld S, p.w.cell? ⟨g2, j * 6 + 4, none⟩ = _ := fun p => ((HPB.out p).cell HG.out.2).trans HA.out.2.1.2.2.2.2.1
        have b5 : ∀ p : Wld S, p.w.cell? ⟨g2, j * 6 + 5, none⟩ = _ := fun p => ((HPB.out p).cell HG.out.2).trans HA.out.2.1.2.2.2.2.2
        have HS1 := Lib.hid (fun p : Wld S => same1_any p.w F1 F2 _ cf1 cf2 _ (HA.out.2.2.1.below (HPB.out p)) (HA.out.2.2.2.1.below (HPB.out p)))
        have HS2 := Lib.hid (fun p : Wld S => same_any p.w e.va e.vb e.vc e.ve D1 D2 _ cd1 cd2 _ (HA.out.2.2.2.2.1.below (HPB.out p)) (HA.out.2.2.2.2.2.below (HPB.out p)))
        clear hat
        have HSW := Lib.hid (HSM.out _ HBR.out.drew)
        go_wp2_with fail
        have hne1 : Nonempty (Wld S) := ⟨⟨_, HSW.out⟩⟩
        refine wp_region_sub S (by kernel_rfl) (by kernel_rfl) HSW.out ?_
        repeat (quiet_step (first | (go_at_call 54; exact calls_sub HX.out (HS1.out _)) | (go_at_call 24; exact calls_sub HX.out (HS2.out _))))
        refine wpQuiet_nil ?_
        intro _ hw'
        obtain ⟨pq, hw''⟩ := hw'
        subst hw''
        go_wp2_with fail
        go_round
        case rel => exact ⟨j + 1, by omega, by go_num, HPB.out pq⟩
        case measure => simp [intOf]; omega
      · have jn : ¬ (j : Int) < n := by omega
        go_wp2_with fail
        go_ret
        exact ⟨rfl, HBR.out⟩

def BackP (n : Nat) (cs : List Value) (w : World) (r : Ending) (w' : World) : Prop := ∃ v, r = .returned v ∧ w'.ownsRow w.heap.size 77 6 v n cs ∧ Below w.heap.size w w'
theorem Try.infoR : (Try.prog.info? 77).map (fun i => (i.zero, i.size, i.bytes)) = some (some zEv, 6, 80) := by kernel_rfl

theorem EvP.lit (X : World) (T : TypeId) (x : List Value) {b : Nat} (hb : b = X.heap.size) (hl : x.length = 6) (ho : ∀ u ∈ x, u.oneCell' = true) : EvP (X.alloc (.cells x.toArray T)) (.slice (some ⟨b, 0, none⟩) 1 1) 1 x := by
  subst hb
  exact ⟨by omega, ho, .inr ⟨_, 1, rfl, by omega, by simp, fun j u hu => by rw [World.cell?_alloc_at _ _ _ _ rfl]; simpa using hu⟩⟩
theorem ones6 (F D : Option Addr) (n c m d : Nat) (a1 a2 a3 a4 : Int) : ∀ u ∈ [Value.slice F n c, .int .i64 a1, .int .i64 a2, .int .i64 a3, .slice D m d, .int .i64 a4], u.oneCell' = true := by
  intro u h
  simp only [List.mem_cons, List.not_mem_nil, or_false] at h
  rcases h with rfl | rfl | rfl | rfl | rfl | rfl <;> rfl
theorem take6 {cs : List Value} {j : Nat} {u0 u1 u2 u3 u4 u5 : Value} (h0 : cs[j * 6]? = some u0) (h1 : cs[j * 6 + 1]? = some u1) (h2 : cs[j * 6 + 2]? = some u2) (h3 : cs[j * 6 + 3]? = some u3) (h4 : cs[j * 6 + 4]? = some u4) (h5 : cs[j * 6 + 5]? = some u5) :
    cs.take ((j + 1) * 6) = cs.take (j * 6) ++ [u0, u1, u2, u3, u4, u5] := by
  rw [show (j + 1) * 6 = j * 6 + 1 + 1 + 1 + 1 + 1 + 1 by omega]
  iterate 6 rw [List.take_add_one]
  rw [h0, h1, show j * 6 + 1 + 1 = j * 6 + 2 by omega, h2, show j * 6 + 2 + 1 = j * 6 + 3 by omega, h3, show j * 6 + 3 + 1 = j * 6 + 4 by omega, h4, show j * 6 + 4 + 1 = j * 6 + 5 by omega, h5]
  simp

set_option maxRecDepth 100000 in
set_option maxHeartbeats 4000000 in
theorem back_any (w : World) (v : Value) (n : Nat) (cs : List Value) (es : List Ev) (hes : EvLW w 0 cs es) (p : EvP w v n cs) (hn : n ≤ 1000000000000) : Calls Try.prog 37 #[v] w (BackP n cs w) := by
  obtain ⟨iB, hiB, hz0, hz1, hz2⟩ := info_parts Try.infoR
  by_cases h0 : n = 0
  · have a1 : ∃ A c, v = .slice A 0 c := by
      rcases p.2.2 with ⟨e, _⟩ | ⟨g, c, e, _⟩
      · exact ⟨_, _, e⟩
      · rw [h0] at e; exact ⟨_, _, e⟩
    have hcs : cs = [] := List.eq_nil_of_length_eq_zero (by rw [p.1, h0])
    subst hcs h0
    obtain ⟨A1, c1, rfl⟩ := a1
    clear p hn hes
    go_enter Try.func37, Try.ntmps37
    go_wp2_with fail
    refine wp_loop_rounds 2 ?_
    rw [rounds_succ]
    go_wp2_with fail
    go_ret
    exact ⟨_, rfl, own_nil _ _ _ _, Below.refl _ _⟩
  · obtain ⟨g1, c1, rfl, hc1, hg1, hq1⟩ : ∃ g c, v = .slice (some ⟨g, 0, none⟩) n c ∧ n ≤ c ∧ g < w.heap.size ∧ ∀ j u, cs[j]? = some u → w.cell? ⟨g, j, none⟩ = some u := by
      rcases p.2.2 with ⟨e, e0⟩ | ⟨g, c, e, hc, hg, hq⟩
      · exact absurd e0 h0
      · exact ⟨g, c, e, hc, hg, hq⟩
    have hn63 : (n : Int) ≤ 9223372036854775807 := by omega
    have HN := Lib.hid hn
    have HL := Lib.hid p.1
    have HO := Lib.hid p.2.1
    have HG := Lib.hid hg1
    have HC := Lib.hid (show ∀ i, i < n → ∃ (e : Ev) (F : Option Addr) (cf : Nat) (D : Option Addr) (cd : Nat),
      (cs[i * 6]? = some (.slice F e.fr.length cf) ∧ cs[i * 6 + 1]? = some (.int .i64 e.va) ∧ cs[i * 6 + 2]? = some (.int .i64 e.vb) ∧ cs[i * 6 + 3]? = some (.int .i64 e.vc) ∧ cs[i * 6 + 4]? = some (.slice D e.ds.length cd) ∧ cs[i * 6 + 5]? = some (.int .i64 e.ve)) ∧
      ∀ k u, cs[k]? = some u → w.cell? ⟨g1, k, none⟩ = some u from fun i hi => by
        have hl := hes.1
        have hp := p.1
        have hget : es[i]? = some (es[i]'(by omega)) := List.getElem?_eq_getElem _
        obtain ⟨F1, cf1, D1, cd1, q0, q1, q2, q3, q4, q5, r1, r2⟩ := EvW.at hes hget
        exact ⟨_, F1, cf1, D1, cd1, ⟨q0, q1, q2, q3, q4, q5⟩, hq1⟩)
    clear p hn hc1 hg1 hq1 hes
    go_enter Try.func37, Try.ntmps37
    go_wp2_with fail
    go_loopw [3, 8] (fun o i wr => ∃ j : Nat, j ≤ n ∧ i = .int .i64 j ∧ wr.ownsRow w.heap.size 77 6 o j (cs.take (j * 6)) ∧ Below w.heap.size w wr) (fun _ i _ => n - (intOf i).toNat)
    case atStart => exact ⟨0, by omega, rfl, by simpa using own_nil _ _ _ _, Below.refl _ _⟩
    case round =>
      obtain ⟨j, hj, rfl, hor, hbr⟩ := hrel
      obtain ⟨Ao, co, rfl⟩ := own_form hor
      have HOR := Lib.hid hor
      have HBR := Lib.hid hbr
      clear hbr hor
      by_cases hlt : j < n
      · have jn : (j : Int) < n := by omega
        obtain ⟨e, F, cf, D, cd, z⟩ := HC.out j hlt
        have HZ := Lib.hid z.1
        have q0 : wr.cell? ⟨g1, j * 6, none⟩ = _ := (HBR.out.cell HG.out).trans (z.2 _ _ z.1.1)
        have q1 : wr.cell? ⟨g1, j * 6 + 1, none⟩ = _ := (HBR.out.cell HG.out).trans (z.2 _ _ z.1.2.1)
        have q2 : wr.cell? ⟨g1, j * 6 + 2, none⟩ = _ := (HBR.out.cell HG.out).trans (z.2 _ _ z.1.2.2.1)
        have q3 : wr.cell? ⟨g1, j * 6 + 3, none⟩ = _ := (HBR.out.cell HG.out).trans (z.2 _ _ z.1.2.2.2.1)
        have q4 : wr.cell? ⟨g1, j * 6 + 4, none⟩ = _ := (HBR.out.cell HG.out).trans (z.2 _ _ z.1.2.2.2.2.1)
        have q5 : wr.cell? ⟨g1, j * 6 + 5, none⟩ = _ := (HBR.out.cell HG.out).trans (z.2 _ _ z.1.2.2.2.2.2)
        clear z
        go_wp2_with (at_builtin; refine stop_here' ?_)
        refine Lib.hid ?_
        refine append_ev rfl _ _ 57 rfl 77 iB zEv 80 Try.underlying57 hiB hz0 hz1 hz2 rfl w (below_alloc (below_alloc HBR.out _) _) _ j (cs.take (j * 6)) rfl (own_below (own_below HOR.out (below_alloc (Below.refl _ _) _)) (below_alloc (Below.refl _ _) _)) _ 1 [.slice F e.fr.length cf, .int .i64 e.va, .int .i64 e.vb, .int .i64 e.vc, .slice D e.ds.length cd, .int .i64 e.ve] rfl (EvP.lit _ _ _ (by simp) rfl (ones6 _ _ _ _ _ _ _ _ _ _)) ?c3 ?c4 ?_
        case c3 => have := HN.out; unfold maxLen; omega
        case c4 => have := HN.out; omega
        intro v' w2 ho2 hb2
        rw [← take6 HZ.out.1 HZ.out.2.1 HZ.out.2.2.1 HZ.out.2.2.2.1 HZ.out.2.2.2.2.1 HZ.out.2.2.2.2.2] at ho2
        have HO2 := Lib.hid ho2
        have HB2 := Lib.hid hb2
        clear ho2 hb2
        go_wp2_with fail
        go_round
        case rel => exact ⟨j + 1, by omega, by go_num, HO2.out, HB2.out⟩
        case measure => simp [intOf]; omega
      · have jn : ¬ (j : Int) < n := by omega
        go_wp2_with fail
        go_ret
        have e : j = n := by omega
        subst e
        have := HOR.out
        rw [List.take_of_length_le (by rw [HL.out]; omega)] at this
        exact ⟨_, rfl, this, HBR.out⟩

end Go.Proofs.Ytdiiolbkjmhmdaa
