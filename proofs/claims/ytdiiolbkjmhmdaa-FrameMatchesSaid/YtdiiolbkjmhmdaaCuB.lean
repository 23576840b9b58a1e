/- The law FrameCuts. -/
import Derived.Test.YtdiiolbkjmhmdaaCuA
import Derived.Test.YtdiiolbkjmhmdaaOpD
namespace Go.Proofs.Ytdiiolbkjmhmdaa
open Go.RowKit
set_option linter.unusedSimpArgs false
set_option linter.unusedVariables false

theorem sum_len : ∀ (ps : List (List Int)) (ls : List Nat), ps.length = ls.length → (∀ j, j < ls.length → (ps.getD j []).length = ls.getD j 0) → ps.flatten.length = ls.sum
  | [], [], _, _ => rfl
  | p :: ps, l :: ls, h, hj => by
    have h0 := hj 0 (by simp)
    simp only [List.getD_cons_zero] at h0
    rw [List.flatten_cons, List.length_append, List.sum_cons, sum_len ps ls (by simpa using h) (fun j hjl => by have := hj (j + 1) (by simpa using hjl); simpa using this), h0]
  | [], _ :: _, h, _ => by simp at h
  | _ :: _, [], h, _ => by simp at h
theorem le_sum : ∀ (ls : List Nat) (j : Nat), ls.getD j 0 ≤ ls.sum
  | [], j => by simp
  | l :: ls, 0 => by simp
  | l :: ls, j + 1 => by have := le_sum ls j; simp only [List.getD_cons_succ, List.sum_cons]; omega
/-- The arguments' slices where all are short. -/
structure Arg3 (W : World) (A : Option Addr) (n : Nat) (ps : List (List Int)) : Prop where
  len : ps.length = n
  tot : ps.flatten.length ≤ 1500
  at' : 0 < n → ∃ g o, A = some ⟨g, o, none⟩ ∧ g < W.heap.size ∧ ∀ j, j < n → ∃ B c, W.cell? ⟨g, o + j, none⟩ = some (.slice B (ps.getD j []).length c) ∧ RdB W (.slice B (ps.getD j []).length c) (ps.getD j [])
theorem Arg3.of {W : World} {A : Option Addr} {n : Nat} {ls : List Nat} {ps : List (List Int)} (h : Arg2 W A n ls ps) (hf : fewB ls = true) : Arg3 W A n ps := by
  obtain ⟨h1, h2, h3⟩ := h
  have hs := (fewB_sum hf).1
  have hm : ∀ j, ls.getD j 0 ≤ maxB := fun j => by have := le_sum ls j; unfold maxB; omega
  have hl : ∀ j, j < n → (ps.getD j []).length = ls.getD j 0 := fun j hj => by
    obtain ⟨g, o, e, hg, hc⟩ := h3 (by omega)
    obtain ⟨B, c, h4, h5⟩ := hc j hj
    exact (h5 (hm j)).len.1.symm
  refine ⟨h2, by rw [sum_len ps ls (by omega) (fun j hj => hl j (by omega))]; exact hs, fun hp => ?_⟩
  obtain ⟨g, o, e, hg, hc⟩ := h3 hp
  refine ⟨g, o, e, hg, fun j hj => ?_⟩
  obtain ⟨B, c, h4, h5⟩ := hc j hj
  rw [hl j hj]
  exact ⟨B, c, h4, h5 (hm j)⟩
theorem Arg3.below {W W' : World} {A : Option Addr} {n : Nat} {ps : List (List Int)} (h : Arg3 W A n ps) (hb : Below W.heap.size W W') : Arg3 W' A n ps :=
  ⟨h.len, h.tot, fun hp => by
    obtain ⟨g, o, e, hg, hc⟩ := h.at' hp
    refine ⟨g, o, e, Nat.lt_of_lt_of_le hg hb.size, fun j hj => ?_⟩
    obtain ⟨B, c, h4, h5⟩ := hc j hj
    exact ⟨B, c, by rw [hb.cell hg]; exact h4, h5.below hb⟩⟩
theorem Arg3.bb {W : World} {A : Option Addr} {n c : Nat} {ps : List (List Int)} (h : Arg3 W A n ps) (hn : n ≤ maxB) : RdBB W (.slice A n c) ps := by
  refine ⟨by rw [h.len]; exact hn, A, c, by rw [h.len], fun hp => ?_⟩
  obtain ⟨g, o, e, hg, hc⟩ := h.at' (by rw [h.len] at hp; exact hp)
  refine ⟨g, o, e, hg, fun j hj => ?_⟩
  obtain ⟨B, c, h4, h5⟩ := hc j (by rw [h.len] at hj; exact hj)
  exact ⟨_, h4, h5⟩
theorem few_arg {W : World} {A : Option Addr} {n c : Nat} {ls : List Nat} {ps : List (List Int)} (h : Arg2 W A n ls ps) (hn : (n : Int) ≤ 9223372036854775807) (W' : World) (hb : Below W.heap.size W W') :
    Calls Try.prog 34 #[.slice A n c] W' (RB (fewB ls) W') := by
  refine few_any W' A c ls n h.1.symm (fun hp => ?_) hn
  obtain ⟨g, o, e, hg, hc⟩ := h.2.2 hp
  refine ⟨g, o, e, Nat.lt_of_lt_of_le hg hb.size, fun j hj => ?_⟩
  obtain ⟨B, c, h4, _⟩ := hc j hj
  exact ⟨B, c, by rw [hb.cell hg]; exact h4⟩

set_option maxRecDepth 100000 in
set_option maxHeartbeats 4000000 in
theorem cuts_few (a b c d e f : Bool) (A : Option Addr) (n cap : Nat) (ls : List Nat) (ps : List (List Int)) (w : World) (h : Arg2 w A n ls ps) (hn : (n : Int) ≤ 9223372036854775807) (hf : fewB ls = false) :
    Calls Try.prog 9 #[.agg #[.bool a, .bool b, .bool c, .bool d, .bool e, .bool f], .slice A n cap] w (RB true w) := by
  have HAL := Lib.hid (fun W : World => aliveF_any W)
  have HFW := Lib.hid (fun W hb => few_arg (c := cap) h hn W hb)
  rw [hf] at HFW
  clear h hn hf
  go_enter Try.func9, Try.ntmps9
  go_wp2_with fail
  refine (new_fr a b c d e f _).mono ?_
  rintro r w1 ⟨g, rfl, hg, hb1, hF⟩
  have HB1 := Lib.hid (below_then' (below_alloc (Below.refl w.heap.size w) _) hb1)
  clear hF hg hb1
  go_wp2_with fail
  refine (HFW.out _ HB1.out).mono ?_
  rintro r w2 ⟨rfl, hb2⟩
  have HB2 := Lib.hid (below_then' HB1.out hb2)
  clear hb2
  go_wp2_with fail
  refine (HAL.out _).mono ?_
  rintro r w3 ⟨rfl, hb3⟩
  have HB3 := Lib.hid (below_then' HB2.out hb3)
  clear hb3
  go_wp2_with fail
  go_ret
  exact ⟨rfl, HB3.out⟩

/-- What every world of the law's last region keeps. -/
def CuS (w1 : World) (N M : Nat) (a b c d e f : Bool) (v : Value) (cl : Bool) (W : World) : Prop :=
  Below w1.heap.size w1 W ∧ W.cell? ⟨N, 0, none⟩ = some (.bool a) ∧ W.cell? ⟨N, 1, none⟩ = some (.bool b) ∧ W.cell? ⟨N, 2, none⟩ = some (.bool c) ∧ W.cell? ⟨N, 3, none⟩ = some (.bool d) ∧ W.cell? ⟨N, 4, none⟩ = some (.bool e) ∧ W.cell? ⟨N, 5, none⟩ = some (.bool f) ∧ W.cell? ⟨M, 6, none⟩ = some v ∧ W.cell? ⟨M, 8, none⟩ = some (.bool cl)
section
variable {w1 W W' : World} {N M : Nat} {a b c d e f : Bool} {v : Value} {cl : Bool}
theorem CuS.bel (h : CuS w1 N M a b c d e f v cl W) : Below w1.heap.size w1 W := h.1
theorem CuS.step (hg : N < w1.heap.size ∧ M < w1.heap.size) (h : CuS w1 N M a b c d e f v cl W) (hb : Below w1.heap.size w1 W') : CuS w1 N M a b c d e f v cl W' := by
  obtain ⟨h0, h1, h2, h3, h4, h5, h6, h7, h8⟩ := h
  have q : ∀ j u, W.cell? ⟨N, j, none⟩ = some u → W'.cell? ⟨N, j, none⟩ = some u := fun j u hu => by rw [hb.cell hg.1, ← h0.cell hg.1]; exact hu
  have q' : ∀ j u, W.cell? ⟨M, j, none⟩ = some u → W'.cell? ⟨M, j, none⟩ = some u := fun j u hu => by rw [hb.cell hg.2, ← h0.cell hg.2]; exact hu
  exact ⟨hb, q _ _ h1, q _ _ h2, q _ _ h3, q _ _ h4, q _ _ h5, q _ _ h6, q' _ _ h7, q' _ _ h8⟩
theorem CuS.drew (h : CuS w1 N M a b c d e f v cl W) : CuS w1 N M a b c d e f v cl W.drew := ⟨h.1.drew, h.2⟩
theorem CuS.alloc {o : Obj} (hg : N < w1.heap.size ∧ M < w1.heap.size) (h : CuS w1 N M a b c d e f v cl W) : CuS w1 N M a b c d e f v cl (W.alloc o) := h.step hg (below_alloc h.1 o)
theorem CuS.next (hg : N < w1.heap.size ∧ M < w1.heap.size) (hb : Below W.heap.size W W') (h : CuS w1 N M a b c d e f v cl W) : CuS w1 N M a b c d e f v cl W' := h.step hg (below_then' h.1 hb)
end

set_option maxRecDepth 100000 in
set_option maxHeartbeats 4000000 in
theorem cuts_walk (a b c d e f : Bool) (A : Option Addr) (n cap : Nat) (ls : List Nat) (ps : List (List Int)) (w : World) (h : Arg2 w A n ls ps) (hn : (n : Int) ≤ 9223372036854775807) (hf : fewB ls = true) :
    Calls Try.prog 9 #[.agg #[.bool a, .bool b, .bool c, .bool d, .bool e, .bool f], .slice A n cap] w (RB true w) := by
  have HAL := Lib.hid (fun W : World => aliveF_any W)
  have HFW := Lib.hid (fun W hb => few_arg (c := cap) h hn W hb)
  rw [hf] at HFW
  have HA3 := Lib.hid (Arg3.of h hf)
  have hn60 : n ≤ 60 := by have := (fewB_sum hf).2; rw [h.1] at this; exact this
  have HN60 := Lib.hid hn60
  clear h hf hn60
  go_enter Try.func9, Try.ntmps9
  go_wp2_with fail
  refine (new_fr a b c d e f _).mono ?_
  rintro r w1 ⟨g, rfl, hg, hb1, hF⟩
  have hba := below_then' (below_alloc (Below.refl w.heap.size w) _) hb1
  have HG := Lib.hid (show w.heap.size + 1 ≤ g by simp at hg; omega)
  have HK := Lib.hid (fun (j : Nat) (u : Value) (hu : (#[.bool a, .bool b, .bool c, .bool d, .bool e, .bool f] : Array Value)[j]? = some u) => show w1.cell? ⟨w.heap.size, j, none⟩ = some u from by
    rw [hb1.cell (by simp), World.cell?_alloc_at _ _ _ _ rfl]; exact hu)
  have HS1 := Lib.hid (show w.heap.size + 1 ≤ w1.heap.size by have := hb1.size; simp at this; omega)
  have HB1 := Lib.hid hba
  have HF := Lib.hid hF
  clear hF hg hb1 hba
  go_wp2_with fail
  refine (HFW.out _ HB1.out).mono ?_
  rintro r w2 ⟨rfl, hb2⟩
  have HB2 := Lib.hid hb2
  have HF2 := Lib.hid (HF.out.below hb2)
  clear hb2
  go_wp2_with fail
  go_loopw [6, 28] (fun t i wr => ∃ (j : Nat) (K : Option Nat) (v : Value) (S : St) (es : List Ev), j ≤ n ∧ i = .int .i64 j ∧ EvS wr g K w1.heap.size t es ∧ NoB wr t ∧ Fr wr g K v S a b c d e f ∧ Below (w.heap.size + 1) w1 wr ∧ (∀ k, K = some k → g < k) ∧ feed b newSt (ps.take j).flatten = (S, es)) (fun _ i _ => n - (intOf i).toNat)
  case atStart => exact ⟨0, none, _, newSt, [], by omega, rfl, EvS.nil _ _ _ _, NoB.nil _, HF2.out, HB2.out.mono HS1.out, nofun, rfl⟩
  case round =>
    obtain ⟨j, K, v, S, es, hj, rfl, hE, hNo, hFr, hBw, hKg, hFd⟩ := hrel
    obtain ⟨Ag, cg, rfl⟩ := hE.form
    have hBW : Below w.heap.size w wr := HB1.out.trans (hBw.mono (Nat.le_succ _))
    have hcnt := feed_count b (ps.take j).flatten newSt
    have htl : (ps.take j).flatten.length ≤ 1500 := by
      have h1 := tot_le ps j
      have := HA3.out.tot
      unfold tot at h1; omega
    rw [hFd] at hcnt
    have HCNT := Lib.hid (show es.length ≤ 1500 ∧ 0 ≤ S.frames ∧ S.frames ≤ 1500 by
      have h0 : newSt.frames = 0 := rfl
      have hcl : es.countP (fun e => decide (e.va = 0)) ≤ es.length := List.countP_le_length
      simp only at hcnt
      omega)
    have HE := Lib.hid hE
    have HNO := Lib.hid hNo
    have HFR := Lib.hid hFr
    have HBw := Lib.hid hBw
    have HKG := Lib.hid hKg
    have HFD := Lib.hid hFd
    have HBW := Lib.hid hBW
    have HA := Lib.hid (HA3.out.below hBW)
    clear hE hNo hFr hBw hKg hFd hBW hcnt htl
    by_cases hlt : j < n
    · have jn : (j : Int) < n := by omega
      obtain ⟨gp, op, rfl, hgp, hcp⟩ := HA.out.at' (by omega)
      obtain ⟨B, cB, kc, hrB⟩ := hcp j hlt
      obtain ⟨gp2, op2, e3, hgp2, hcp2⟩ := HA3.out.at' (by omega)
      injection e3 with e3
      injection e3 with e3 e4
      subst e3 e4
      obtain ⟨B2, cB2, kc2, hrB2⟩ := hcp2 j hlt
      obtain ⟨q, hq⟩ : ∃ q, q = ps.getD j [] := ⟨_, rfl⟩
      obtain ⟨l, hl⟩ : ∃ l, l = q.length := ⟨_, rfl⟩
      rw [← hq, ← hl] at kc hrB kc2 hrB2
      have hav : Av g K B l := fun hp x hx => by
        have h2 : wr.cell? ⟨gp, op + j, none⟩ = some (.slice B2 l cB2) := by rw [HBW.out.cell hgp2]; exact kc2
        rw [kc] at h2
        injection h2 with h2
        injection h2 with h2 _ _
        subst h2
        obtain ⟨gm, om, e1, hltm⟩ := hrB2.lt hp
        rw [e1] at hx; injection hx with hx; rw [← hx]
        have := HG.out
        exact ⟨by show gm ≠ g; omega, fun e => by have := HKG.out gm e.symm; omega⟩
      have hl1500 : l ≤ 1500 := by
        have h1 := tot_succ (ps := ps) (k := j) (by rw [HA3.out.len]; exact hlt)
        have h2 := tot_le ps (j + 1)
        have := HA3.out.tot
        rw [← hq, ← hl] at h1
        omega
      have HFE := Lib.hid (feed_any HFR.out B l cB q hrB hav (by rw [← hl]; have := HCNT.out; omega) HKG.out)
      have HQ := Lib.hid hq
      have HL := Lib.hid hl
      clear hcp hrB hgp2 hcp2 kc2 hrB2 hq hl hav hgp
      go_wp2_with fail
      refine HFE.out.mono ?_
      rintro r w3 ⟨vE, v3, K3, rfl, hE3, hF3, hch3, hnx3⟩
      have hfc := (feed_count b q S).2
      obtain ⟨cs, ho, hlc, hbk⟩ := HE.out
      have hol := ho.lt
      have ho3 := own_ch ho hbk hch3
      have hl3 := hlc.ch hch3 hnx3
      have hno3 : NoB w3 (.slice Ag es.length cg) := HNO.out.same (fun k hk => hch3.block k (hol k hk).2 (hbk k hk).1 (hbk k hk).2)
      obtain ⟨cs3, hp3, hle3⟩ := hE3.part
      obtain ⟨AE, cE, rfl⟩ := hE3.form
      have HHE := Lib.hid hfc
      have HO3 := Lib.hid ho3
      have HL3 := Lib.hid hl3
      have HNO3 := Lib.hid hno3
      have HP3 := Lib.hid hp3
      have HLE3 := Lib.hid hle3
      have HF3 := Lib.hid hF3
      have HCH3 := Lib.hid hch3
      have HNX3 := Lib.hid hnx3
      have HBK := Lib.hid hbk
      have HOL := Lib.hid hol
      have HLC := Lib.hid hl1500
      clear hE3 hF3 hch3 hnx3 hfc ho hlc hbk hol ho3 hl3 hno3 hp3 hle3 hl1500 HFE
      obtain ⟨iB, hiB, hz0, hz1, hz2⟩ := info_parts Try.infoE
      go_wp2_with (at_builtin; refine stop_hereO ?_)
      refine Lib.hid ?_
      refine append_ev3 rfl _ _ 53 rfl 75 iB 80 Try.underlying53 hiB hz0 hz1 hz2 w1.heap.size ?c1 _ es.length cs rfl HO3.out HNO3.out _ _ cs3 rfl HP3.out HLE3.out.cells ?c3 ?c4 ?_
      case c1 => have := HCH3.out.size; have := HBw.out.size; omega
      case c3 => have := HHE.out; have := HCNT.out.1; have := HLC.out; have := HL.out; unfold maxLen; omega
      case c4 => have := HHE.out; have := HCNT.out.1; have := HLC.out; have := HL.out; omega
      intro v' w4 ho4 hg4 hn4 hno4
      have HO4 := Lib.hid ho4
      have HG4 := Lib.hid hg4
      have HN4 := Lib.hid hn4
      have HNO4 := Lib.hid hno4
      clear ho4 hg4 hn4 hno4
      go_wp2_with fail
      go_round
      case rel =>
        have hgl := HFR.out.glt
        have hK3 : ∀ k, K3 = some k → some k ≠ (Value.slice Ag es.length cg).ownBlock := fun k hk e => by
          have h1 := HBK.out k e.symm
          have h2 := (HOL.out k e.symm).2
          rcases HNX3.out with h | h | ⟨k', h, hk'⟩
          · rw [h] at hk; cases hk
          · rw [h] at hk; exact h1.2 hk.symm
          · rw [h] at hk; injection hk with hk; omega
        have hg3 : some g ≠ (Value.slice Ag es.length cg).ownBlock := fun e => (HBK.out g e.symm).1 rfl
        refine ⟨j + 1, K3, v3, (feed b S q).1, es ++ (feed b S q).2, by omega, by go_num, ⟨cs ++ cs3, by rw [List.length_append]; exact HO4.out, (HL3.out.grown HNO3.out HG4.out).append (HLE3.out.grown HNO3.out HG4.out), fun k hk => ?_⟩, HNO4.out, HF3.out.grown HG4.out hg3 hK3, ?_, HNX3.out.gt HKG.out hgl, ?_⟩
        · have hN4 : ∀ k, v'.ownBlock = some k → (Value.slice Ag es.length cg).ownBlock = some k ∨ w3.heap.size ≤ k := fun k hk => by
            rcases HN4.out with h | h | ⟨k', h, hk'⟩
            · rw [h] at hk; cases hk
            · rw [h] at hk; exact .inl hk
            · rw [h] at hk; injection hk with hk; exact .inr (by omega)
          rcases hN4 k hk with h | h
          · exact ⟨(HBK.out k h).1, fun e => hK3 k e.symm h.symm⟩
          · have := HF3.out.glt
            exact ⟨by omega, fun e => by have := HF3.out.lt k e.symm; omega⟩
        · have h1 : Below (w.heap.size + 1) wr w3 := HCH3.out.bel (by have := HBw.out.size; have := HS1.out; omega) HG.out (fun k hk => by have := HKG.out k hk; have := HG.out; omega)
          have h2 := HBw.out.trans h1
          exact h2.grown HG4.out (by have := h1.size; have := HBw.out.size; have := HS1.out; omega) (fun k hk => by have := (HOL.out k hk).1; have := HS1.out; omega)
        · rw [take_flat (by rw [HA3.out.len]; exact hlt), feed_append, HFD.out, ← HQ.out]
      case measure => simp [intOf]; omega
    · have jn : ¬ (j : Int) < n := by omega
      have htk : ps.take j = ps := List.take_of_length_le (by rw [HA3.out.len]; omega)
      have hfd := HFD.out
      rw [htk] at hfd
      have HFD' := Lib.hid hfd
      have HCC := Lib.hid (concat_any wr _ ps (HA.out.bb (c := cap) (by have := HN60.out; unfold maxB; omega)) (by have := HA3.out.tot; omega))
      clear htk hfd
      go_wp2_with fail
      refine HCC.out.mono ?_
      rintro r w5 ⟨A5, c5, rfl, ho5, hb5⟩
      obtain ⟨all, hall⟩ : ∃ all, all = ps.flatten := ⟨_, rfl⟩
      rw [← hall] at ho5 ⊢
      have hby : ∀ x ∈ all, 0 ≤ x ∧ x ≤ 255 := by
        intro x hx
        rw [hall] at hx
        obtain ⟨p, hp, hxp⟩ := List.mem_flatten.1 hx
        obtain ⟨i, hi, e⟩ := List.mem_iff_getElem.1 hp
        obtain ⟨g', o', e', hg', hc'⟩ := HA.out.at' (by rw [← HA3.out.len]; omega)
        obtain ⟨B, cB, _, hrB⟩ := hc' i (by rw [← HA3.out.len]; exact hi)
        rw [List.getD_eq_getElem?_getD, List.getElem?_eq_getElem hi] at hrB
        exact hrB.1 x (by rw [← e] at hxp; exact hxp)
      have hlen5 : all.length ≤ 1500 := by rw [hall]; exact HA3.out.tot
      obtain ⟨L, hL⟩ : ∃ L, L = all.length := ⟨_, rfl⟩
      have hr5 : RdB w5 (.slice A5 L c5) all := by rw [hL]; exact RdB.own ho5 hby (by unfold maxB; omega)
      rw [← hL] at ⊢
      rw [← hL] at hlen5
      have HALL := Lib.hid hall
      have HL5 := Lib.hid (And.intro hL hlen5)
      have HR5 := Lib.hid hr5
      have hb5' : Below w.heap.size w w5 := below_then' HBW.out hb5
      have HB5 := Lib.hid hb5
      have HBW5 := Lib.hid hb5'
      have q : ∀ (j : Nat) (u : Value), (#[.bool a, .bool b, .bool c, .bool d, .bool e, .bool f] : Array Value)[j]? = some u → w5.cell? ⟨w.heap.size, j, none⟩ = some u := fun j u hu => by
        rw [hb5.cell (by have := HBw.out.size; have := HS1.out; show w.heap.size < wr.heap.size; omega), HBw.out.cell (by show w.heap.size < w.heap.size + 1; omega)]; exact HK.out j u hu
      have HQ := Lib.hid q
      have q0 := q 0 _ rfl
      have q1 := q 1 _ rfl
      have q2 := q 2 _ rfl
      have q3 := q 3 _ rfl
      have q4 := q 4 _ rfl
      have q5 := q 5 _ rfl
      have hw5 : w.heap.size < w5.heap.size := by have := hb5.size; have := HBw.out.size; have := HS1.out; omega
      have HW5 := Lib.hid hw5
      clear hby hlen5 hL hr5 hb5 hb5' q ho5 hall hw5 HCC
      go_wp2_with fail
      have HRF := Lib.hid (rfeed_any (w := w5) (s := newSt) (a := a) (b := b) (c := c) (d := d) (e := e) (f := f) none 0 0 (RdB.nil _ _ _ ⟨by omega, fun _ => rfl⟩) A5 L c5 all HR5.out (by have h1 : newSt.kept.length = 0 := rfl; have := HL5.out; omega) (by have h1 : newSt.frames = 0 := rfl; have := HL5.out; omega))
      rw [HALL.out, HFD'.out] at HRF
      refine HRF.out.mono ?_
      rintro r w6 ⟨A6, m6, c6, v6, rfl, hr6, hf6, hE6, hb6⟩
      have hm6 := hr6.len.1
      obtain ⟨wq, hwq⟩ : ∃ wq, wq = w6.alloc (.cells #[.bool a, .bool b, .bool c, .bool d, .bool e, .bool f, .slice A6 m6 c6, .int .i64 S.len, .bool S.closed, .int .i64 S.frames] 56) := ⟨_, rfl⟩
      have hba6 := below_alloc hb6 (.cells #[.bool a, .bool b, .bool c, .bool d, .bool e, .bool f, .slice A6 m6 c6, .int .i64 S.len, .bool S.closed, .int .i64 S.frames] 56)
      rw [← hwq] at hba6
      have p : ∀ (j : Nat) (u : Value), (#[.bool a, .bool b, .bool c, .bool d, .bool e, .bool f] : Array Value)[j]? = some u → wq.cell? ⟨w.heap.size, j, none⟩ = some u := fun j u hu => by
        rw [hba6.cell HW5.out]; exact HQ.out j u hu
      have z6 : wq.cell? ⟨w6.heap.size, 6, none⟩ = some (.slice A6 m6 c6) := by rw [hwq, World.cell?_alloc_at _ _ _ _ rfl]; rfl
      have z8 : wq.cell? ⟨w6.heap.size, 8, none⟩ = some (.bool S.closed) := by rw [hwq, World.cell?_alloc_at _ _ _ _ rfl]; rfl
      have HS0 := Lib.hid (show CuS wq w.heap.size w6.heap.size a b c d e f (.slice A6 m6 c6) S.closed wq from ⟨Below.refl _ _, p 0 _ rfl, p 1 _ rfl, p 2 _ rfl, p 3 _ rfl, p 4 _ rfl, p 5 _ rfl, z6, z8⟩)
      have HGL := Lib.hid (show w.heap.size < wq.heap.size ∧ w6.heap.size < wq.heap.size from ⟨by have := hba6.size; have := HW5.out; omega, by rw [hwq]; simp⟩)
      have hbq : Below wr.heap.size wr wq := below_then' HB5.out hba6
      have hbw6 := hb6
      have HBK1 := Lib.hid (fun W (hb : Below wq.heap.size wq W) => back_evs (w := W) (HE.out.ch (Ch.of (below_then' hbq hb)) (Nx.refl _ _)) (by have := HCNT.out; omega))
      have hEq : EvSW wq w5.heap.size v6 es := by rw [hwq]; exact hE6.below (below_alloc (Below.refl _ _) _)
      have HSM := Lib.hid (fun W v1 (hb : Below wq.heap.size wq W) (h1 : EvSW W 0 v1 es) => same_sw h1 (hEq.below hb) (by have := HCNT.out; omega))
      have HSP := Lib.hid (fun W (hb : Below wq.heap.size wq W) => (show Calls Try.prog 38 #[.agg #[.bool a, .bool b, .bool c, .bool d, .bool e, .bool f], .slice A5 L c5] W (SplitP es W) from by
        have h1 := split_any a b c d e f A5 L c5 all W (HR5.out.below (below_then' hba6 hb)) (by have := HL5.out; omega)
        rw [HALL.out, HFD'.out] at h1
        exact h1))
      have HHD := Lib.hid (fun W (hb : Below wq.heap.size wq W) => (show Calls Try.prog 32 #[.pointer (some ⟨g, 0, none⟩)] W (RV (.int .i64 m6) W) from hm6.symm ▸ held_any (HFR.out.below (below_then' hbq hb))))
      have HCD := Lib.hid (fun W (hb : Below wq.heap.size wq W) => closed_any (HFR.out.below (below_then' hbq hb)))
      have HESL := Lib.hid (show es.length ≤ 1500 from HCNT.out.1)
      have HFIN := Lib.hid (fun W (hb : Below wq.heap.size wq W) => below_then' HBW.out (below_then' hbq hb))
      have HWQ := Lib.hid hwq
      have hcc : (S.closed == S.closed) = true := by simp
      have hmm : ((m6 : Int) == m6) = true := by simp
      clear p z6 z8 hr6 hf6 hE6 hb6 hba6 hbq hbw6 hEq hm6 q0 q1 q2 q3 q4 q5 HRF hwq
      go_upto_region 12 with fail
      rw [← HWQ.out]
      go_region_held3 (fun w' => Below wq.heap.size wq w' ∧ w'.cell? ⟨w.heap.size, 0, none⟩ = some (.bool a) ∧ w'.cell? ⟨w.heap.size, 1, none⟩ = some (.bool b) ∧ w'.cell? ⟨w.heap.size, 2, none⟩ = some (.bool c) ∧ w'.cell? ⟨w.heap.size, 3, none⟩ = some (.bool d) ∧ w'.cell? ⟨w.heap.size, 4, none⟩ = some (.bool e) ∧ w'.cell? ⟨w.heap.size, 5, none⟩ = some (.bool f) ∧ w'.cell? ⟨w6.heap.size, 6, none⟩ = some (.slice A6 m6 c6) ∧ w'.cell? ⟨w6.heap.size, 8, none⟩ = some (.bool S.closed))
        ((show CuS wq w.heap.size w6.heap.size a b c d e f (.slice A6 m6 c6) S.closed _; repeat (first | with_reducible exact HS0.out | with_reducible refine CuS.drew ?_ | with_reducible refine CuS.alloc HGL.out ?_ | with_reducible refine CuS.next HGL.out hb ?_ | assumption)))
        (first | (go_at_call 29; refine (HAL.out _).mono ?_; rintro r w7 ⟨rfl, hb⟩) | (go_at_call 37; refine (back_evs HSPL.out (by have := HESL.out; omega)).mono ?_; rintro r w7 ⟨vB, rfl, hE7, hb⟩; have HEB := Lib.hid hE7; clear hE7) | (go_at_call 37; refine (HBK1.out _ ?_).mono ?_; (focus (refine CuS.bel (N := w.heap.size) (M := w6.heap.size) (a := a) (b := b) (c := c) (d := d) (e := e) (f := f) (v := .slice A6 m6 c6) (cl := S.closed) ?_; assumption)); rintro r w7 ⟨vB, rfl, hE7, hb⟩; have HEB := Lib.hid hE7; clear hE7) | (go_at_call 36; refine (HSM.out _ _ ?_ ?_).mono ?_; (focus (refine CuS.bel (N := w.heap.size) (M := w6.heap.size) (a := a) (b := b) (c := c) (d := d) (e := e) (f := f) (v := .slice A6 m6 c6) (cl := S.closed) ?_; assumption)); (focus (exact HEB.out)); rintro r w7 ⟨rfl, hb⟩) | (go_at_call 38; refine (HSP.out _ ?_).mono ?_; (focus (refine CuS.bel (N := w.heap.size) (M := w6.heap.size) (a := a) (b := b) (c := c) (d := d) (e := e) (f := f) (v := .slice A6 m6 c6) (cl := S.closed) ?_; assumption)); rintro r w7 ⟨vS, gS, KS, bS, rfl, hE7, hb⟩; have HSPL := Lib.hid hE7; clear hE7) | (go_at_call 32; refine (HHD.out _ ?_).mono ?_; (focus (refine CuS.bel (N := w.heap.size) (M := w6.heap.size) (a := a) (b := b) (c := c) (d := d) (e := e) (f := f) (v := .slice A6 m6 c6) (cl := S.closed) ?_; assumption)); rintro r w7 ⟨rfl, hb⟩) | (go_at_call 33; refine (HCD.out _ ?_).mono ?_; (focus (refine CuS.bel (N := w.heap.size) (M := w6.heap.size) (a := a) (b := b) (c := c) (d := d) (e := e) (f := f) (v := .slice A6 m6 c6) (cl := S.closed) ?_; assumption)); rintro r w7 ⟨rfl, hb⟩))
      all_goals go_wp2_with fail
      all_goals go_ret
      all_goals exact ⟨rfl, HFIN.out _ (CuS.bel (w1 := wq) (N := w.heap.size) (M := w6.heap.size) (a := a) (b := b) (c := c) (d := d) (e := e) (f := f) (v := .slice A6 m6 c6) (cl := S.closed) (by assumption))⟩

set_option maxRecDepth 100000 in
theorem cuts_any (a b c d e f : Bool) (A : Option Addr) (n cap : Nat) (ls : List Nat) (ps : List (List Int)) (w : World) (h : Arg2 w A n ls ps) (hn : (n : Int) ≤ 9223372036854775807) :
    Calls Try.prog 9 #[.agg #[.bool a, .bool b, .bool c, .bool d, .bool e, .bool f], .slice A n cap] w (RB true w) := by
  cases hf : fewB ls with
  | false => exact cuts_few a b c d e f A n cap ls ps w h hn hf
  | true => exact cuts_walk a b c d e f A n cap ls ps w h hn hf

end Go.Proofs.Ytdiiolbkjmhmdaa
