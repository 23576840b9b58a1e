/- The law FrameBounds. -/
import Derived.Test.YtdiiolbkjmhmdaaFrM
import Derived.Test.YtdiiolbkjmhmdaaFrN
import Derived.Deep.OwnRows
namespace Go.Proofs.Ytdiiolbkjmhmdaa
open Go.RowKit
set_option linter.unusedSimpArgs false
set_option linter.unusedVariables false

/-- What is kept stays below the limit. -/
structure Low (b : Bool) (s : St) : Prop where
  cl : s.closed = true → s.kept = []
  lg : 19 ≤ s.kept.length → (s.kept.length : Int) < s.len ∧ s.len ≤ mostK b
theorem va_mark {b : Bool} {xs : List Int} (h : (hdr b xs).va = 0) : mark (xs.take 16) = none := by
  cases hm : mark (xs.take 16) with
  | some p => rw [hdr_mark hm] at h; simp at h
  | none => rfl
theorem Low.one {b : Bool} {s : St} (h : Low b s) (hc : ¬ s.closed = true) (c : Int) : Low b (one b s c).1 := by
  unfold Go.Proofs.Ytdiiolbkjmhmdaa.one
  have hc' : s.closed = false := by simpa using hc
  split
  · rename_i hl
    split
    · exact ⟨fun _ => rfl, by simp⟩
    · rename_i hv
      have hv' : (hdr b (s.kept ++ [c])).va = 0 := by omega
      split
      · exact ⟨fun _ => rfl, by simp⟩
      · rename_i he
        refine ⟨fun e => by simp [hc'] at e, fun h19 => ?_⟩
        simp only at h19 ⊢
        have := hdr_len (va_mark hv') h19 hv'
        unfold looks at hl
        simp only [Bool.or_eq_true, Bool.and_eq_true, decide_eq_true_eq] at hl
        omega
  · rename_i hl
    split
    · exact ⟨fun _ => rfl, by simp⟩
    · rename_i he
      refine ⟨fun e => by simp [hc'] at e, fun h19 => ?_⟩
      simp only at h19 ⊢
      unfold looks at hl
      simp only [Bool.or_eq_true, Bool.and_eq_true, decide_eq_true_eq] at hl
      have hlen : (s.kept ++ [c]).length = s.kept.length + 1 := by simp
      have := h.lg (by omega)
      omega
theorem Low.feed {b : Bool} : ∀ (xs : List Int) {s : St}, Low b s → Low b (feed b s xs).1
  | [], s, h => h
  | c :: r, s, h => by
    by_cases hc : s.closed = true
    · rw [feed_closed hc]; exact h
    · rw [feed_cons hc]; exact Low.feed r (h.one hc c)
theorem low_new (b : Bool) : Low b newSt := ⟨by simp [newSt], by simp [newSt]⟩
theorem Low.lt {b : Bool} {s : St} (h : Low b s) : (s.kept.length : Int) < limitK b 2 := by
  by_cases h19 : 19 ≤ s.kept.length
  · have := h.lg h19
    have e : mostK b = limitK b 2 := by cases b <;> rfl
    omega
  · have : 4096 ≤ limitK b 2 := by cases b <;> decide
    omega
theorem RdB.zeros (w : World) (n : Nat) (hn : n ≤ 1000000) : RdB (w.alloc (.cells (madeCells #[.int .u8 0] n) 5)) (.slice (some ⟨w.heap.size, 0, none⟩) n n) (List.replicate n 0) := by
  refine ⟨fun x hx => by rw [List.eq_of_mem_replicate hx]; omega, by rw [List.length_replicate]; unfold maxB; omega, some ⟨w.heap.size, 0, none⟩, n, by rw [List.length_replicate], by rw [List.length_replicate]; omega, ⟨by omega, fun h => nomatch h⟩, fun _ => ⟨w.heap.size, 0, rfl, by simp, fun j hj => ?_⟩⟩
  rw [List.length_replicate] at hj
  rw [World.cell?_alloc_at _ _ _ _ rfl, Nat.zero_add]
  simp [madeCells, hj, Nat.mod_one, List.getD_eq_getElem?_getD, List.getElem?_replicate]

theorem stop_hereO {p : Prop} (h : Hid p) : p := h
set_option maxRecDepth 100000 in
set_option maxHeartbeats 4000000 in
theorem bounds_any (a b c d e f : Bool) (A : Option Addr) (m cap : Nat) (xs : List Int) (n : Int) (w : World) (hr : m ≤ maxB → RdB w (.slice A m cap) xs) (hn : 0 ≤ n ∧ n ≤ 255) :
    Calls Try.prog 8 #[.agg #[.bool a, .bool b, .bool c, .bool d, .bool e, .bool f], .slice A m cap, .int .u8 n] w (RB true w) := by
  have HAL := Lib.hid (fun W : World => aliveF_any W)
  by_cases hm : 100 < m
  · have hm' : (100 : Int) < m := by omega
    clear hr hm
    go_enter Try.func8, Try.ntmps8
    go_wp2_with fail
    refine (new_fr a b c d e f _).mono ?_
    rintro r w1 ⟨g, rfl, hg, hb1, hF⟩
    have HB1 := Lib.hid hb1
    clear hF hg hb1
    go_wp2_with fail
    refine (HAL.out _).mono ?_
    rintro r w2 ⟨rfl, hb2⟩
    have HB2 := Lib.hid hb2
    clear hb2
    go_wp2_with fail
    go_ret
    exact ⟨rfl, below_then' (below_then' (below_alloc (Below.refl _ _) _) HB1.out) HB2.out⟩
  · have hr := hr (by unfold maxB; omega)
    have hm' : ¬ (100 : Int) < m := by omega
    have hml := hr.len.1
    have HR := Lib.hid hr
    have HM := Lib.hid hm
    have HML := Lib.hid hml
    have HN := Lib.hid hn
    obtain ⟨N, hN⟩ : ∃ N : Nat, (N : Int) = 40 * n := ⟨(40 * n).toNat, by omega⟩
    have hwn : IntKind.i64.wrap n = n := by rw [IntKind.wrap_i64]; omega
    have hw40 : IntKind.i64.wrap (40 * n) = (N : Int) := by rw [IntKind.wrap_i64]; omega
    have hN2 : N ≤ 10200 := by omega
    have HN2 := Lib.hid hN2
    have hmk := run_make_row' (P := Try.prog) 24 5 (.int .u8 0) 1 Try.underlying24 Try.infoB rfl .i64 .i64 N (by omega) (by omega)
    clear hr hm hml hn hN hN2
    go_enter Try.func8, Try.ntmps8
    go_wp2_with fail
    refine (new_fr a b c d e f _).mono ?_
    rintro r w1 ⟨g, rfl, hg, hb1, hF⟩
    have hba : Below w.heap.size w w1 := below_then' (below_alloc (Below.refl _ _) _) hb1
    have hg1 : w.heap.size + 1 ≤ g := by simp at hg; omega
    have kk : ∀ (j : Nat) (u : Value), (#[.bool a, .bool b, .bool c, .bool d, .bool e, .bool f] : Array Value)[j]? = some u → w1.cell? ⟨w.heap.size, j, none⟩ = some u := fun j u hu => by
      rw [hb1.cell (by simp), World.cell?_alloc_at _ _ _ _ rfl]; exact hu
    have HK := Lib.hid kk
    have HB1 := Lib.hid hba
    have HG := Lib.hid hg1
    have hw1 : w.heap.size < w1.heap.size := by have := hb1.size; simp at this; omega
    have HW1 := Lib.hid hw1
    have hr1 := HR.out.below hba
    have hav1 : Av g none A m := fun hp x hx => ⟨by
      obtain ⟨gm, om, e1, hlt⟩ := HR.out.lt hp
      rw [e1] at hx; injection hx with hx; rw [← hx]
      have := hg1; show gm ≠ g; omega, nofun⟩
    have HF1 := Lib.hid (feed_any hF A m cap xs hr1 hav1 (by simp [newSt]; have := HM.out; have := HML.out; omega) nofun)
    have HGW := Lib.hid hF.glt
    clear hF hg hb1 hba hg1 kk hr1 hav1 hw1
    go_wp2_with fail
    refine HF1.out.mono ?_
    rintro r w2 ⟨vE, v2, K2, rfl, hE2, hF2, hch2, hnx2⟩
    have HF2 := Lib.hid hF2
    have HCH2 := Lib.hid hch2
    have HNX2 := Lib.hid hnx2
    clear hE2 hF2 hch2 hnx2 HF1
    go_wp2_with fail
    obtain ⟨S1, hS1⟩ : ∃ S, S = (feed b newSt xs).1 := ⟨_, rfl⟩
    have HS1 := Lib.hid hS1
    rw [← hS1] at HF2
    have hz : S1.frames ≤ 100 ∧ 0 ≤ S1.frames := by
      have h1 := feed_count b xs newSt
      have h0 : newSt.frames = 0 := rfl
      have h2 : (feed b newSt xs).2.countP (fun e => decide (e.va = 0)) ≤ (feed b newSt xs).2.length := List.countP_le_length
      have := HM.out; have := HML.out
      rw [hS1]; omega
    have hbz := below_alloc (Below.refl w2.heap.size w2) (.cells (madeCells #[.int .u8 0] N) 5)
    have HF3 := Lib.hid (feed_any (HF2.out.below hbz) (some ⟨w2.heap.size, 0, none⟩) N N (List.replicate N 0) (RdB.zeros w2 N (by have := HN2.out; omega)) (fun hp x hx => ⟨by injection hx with hx; rw [← hx]; have := HF2.out.glt; show w2.heap.size ≠ g; omega, fun e => by injection hx with hx; rw [← hx] at e; have := HF2.out.lt _ e.symm; simp at this⟩) (by rw [List.length_replicate]; have := HN2.out; omega) (HNX2.out.gt nofun HGW.out))
    have HBZ := Lib.hid hbz
    clear hS1 hz hbz
    refine HF3.out.mono ?_
    rintro r w3 ⟨vE3, v3, K3, rfl, hE3, hF3, hch3, hnx3⟩
    obtain ⟨S2, hS2⟩ : ∃ S, S = (feed b S1 (List.replicate N 0)).1 := ⟨_, rfl⟩
    have HS2 := Lib.hid hS2
    rw [← hS2] at hF3
    have hch : Ch g none w1 w3 := (HCH2.out.below HBZ.out).trans hch3 (show Nx w1 none K2 from HNX2.out)
    have HCH := Lib.hid hch
    have HW3 := Lib.hid (show w.heap.size < w3.heap.size by have := hch.size; have := HW1.out; omega)
    have hr3 := (HR.out.below HB1.out).ch (g := g) (K := none) (fun hp x hx => ⟨by
      obtain ⟨gm, om, e1, hlt⟩ := HR.out.lt hp
      rw [e1] at hx; injection hx with hx; rw [← hx]
      have := HG.out; show gm ≠ g; omega, nofun⟩) hch
    have HF3 := Lib.hid hF3
    have HR3 := Lib.hid hr3
    have q : ∀ (j : Nat) (u : Value), (#[.bool a, .bool b, .bool c, .bool d, .bool e, .bool f] : Array Value)[j]? = some u → w3.cell? ⟨w.heap.size, j, none⟩ = some u := fun j u hu => by
      rw [hch.cell (by show w.heap.size < w1.heap.size; exact HW1.out) (by have := HG.out; show w.heap.size ≠ g; omega) nofun]; exact HK.out j u hu
    have HQ := Lib.hid q
    have q0 := q 0 _ rfl
    have q1 := q 1 _ rfl
    have q2 := q 2 _ rfl
    have q3 := q 3 _ rfl
    have q4 := q 4 _ rfl
    have q5 := q 5 _ rfl
    clear hE3 hF3 hch3 hnx3 hS2 hch hr3 q
    go_wp2_with fail
    have HRF := Lib.hid (rfeed_any (w := w3) (s := newSt) (a := a) (b := b) (c := c) (d := d) (e := e) (f := f) none 0 0 (RdB.nil _ _ _ ⟨by omega, fun _ => rfl⟩) A m cap xs HR3.out (by simp [newSt]; have := HM.out; have := HML.out; omega) (by simp [newSt]; have := HM.out; have := HML.out; omega))
    refine HRF.out.mono ?_
    rintro r w4 ⟨A4, m4, c4, v4, rfl, hr4, hf4, hE4, hb4⟩
    have e4 := HS1.out
    rw [← e4]
    have p : ∀ (j : Nat) (u : Value), (#[.bool a, .bool b, .bool c, .bool d, .bool e, .bool f] : Array Value)[j]? = some u → ∀ o, (w4.alloc o).cell? ⟨w.heap.size, j, none⟩ = some u := fun j u hu o => by
      rw [World.cell?_alloc_past _ _ _ (by have := hb4.size; have := HW3.out; show w.heap.size < w4.heap.size; omega), hb4.cell HW3.out]; exact HQ.out j u hu
    have p0 := p 0 _ rfl
    have p1 := p 1 _ rfl
    have p2 := p 2 _ rfl
    have p3 := p 3 _ rfl
    have p4 := p 4 _ rfl
    have p5 := p 5 _ rfl
    have HB4 := Lib.hid hb4
    have hlow : ((S2.kept.length : Nat) : Int) < limitK b 2 := by
      have h1 := ((low_new b).feed xs)
      rw [← e4] at h1
      have h2 := h1.feed (List.replicate N 0)
      rw [← HS2.out] at h2
      exact h2.lt
    have hcl : S1.closed = true → S2.closed = true ∧ S2.kept = [] := fun hc => by
      have h1 := ((low_new b).feed xs)
      rw [← e4] at h1
      have h2 := HS2.out
      rw [feed_closed hc] at h2
      rw [h2]
      exact ⟨hc, h1.cl hc⟩
    have HCL := Lib.hid hcl
    obtain ⟨L, hL⟩ : ∃ L, L = limitK b 2 := ⟨_, rfl⟩
    obtain ⟨HE, hHE⟩ : ∃ h : Int, h = ((S2.kept.length : Nat) : Int) := ⟨_, rfl⟩
    rw [← hL, ← hHE] at hlow
    have HLI := Lib.hid (fun W => (show Calls Try.prog 17 #[.agg #[.bool a, .bool b, .bool c, .bool d, .bool e, .bool f], .int .i64 2] W (RV (.int .i64 L) W) from hL ▸ limit_any a b c d e f 2 W))
    have HHD := Lib.hid (fun W (hb : Below w3.heap.size w3 W) => (show Calls Try.prog 32 #[.pointer (some ⟨g, 0, none⟩)] W (RV (.int .i64 HE) W) from hHE ▸ held_any (HF3.out.below hb)))
    have HCD := Lib.hid (fun W (hb : Below w3.heap.size w3 W) => closed_any (HF3.out.below hb))
    have HHE := Lib.hid hHE
    have HBF := Lib.hid (show ∀ W, Below w3.heap.size w3 W → Below w.heap.size w W from fun W hb => (HB1.out.trans (HCH.out.bel HB1.out.size (by have := HG.out; omega) (fun k hk => by cases hk))).trans (hb.mono (by have := HB1.out.size; have := HCH.out.size; omega)))
    clear p hr4 hf4 hE4 hb4 hcl hL hHE e4 q0 q1 q2 q3 q4 q5
    by_cases hc : S1.closed = true
    · rw [hc]
      have h0 : HE = 0 := by rw [HHE.out, (HCL.out hc).2]; rfl
      have HC := Lib.hid hc
      rw [show S2.closed = true from (HCL.out hc).1] at HCD
      subst h0
      clear hc
      go_wp2_with fail
      refine (HLI.out _).mono ?_
      rintro r w5 ⟨rfl, hb5⟩
      have HB5 := Lib.hid (show Below w3.heap.size w3 w5 from below_then' (below_alloc HB4.out _) hb5)
      have c5 := (hb5.cell (p := ⟨w4.heap.size, 8, none⟩) (by simp)).trans (World.cell?_alloc_at _ _ _ _ rfl)
      have HC5 := Lib.hid (show w5.cell? ⟨w4.heap.size, 8, none⟩ = some (.bool true) from c5)
      have HS5 := Lib.hid (show w4.heap.size < w5.heap.size by have := hb5.size; simp at this; omega)
      clear hb5 c5 p0 p1 p2 p3 p4 p5
      go_wp2_with fail
      refine (HAL.out _).mono ?_
      rintro r w6 ⟨rfl, hb6⟩
      have HB6 := Lib.hid hb6
      clear hb6
      go_wp2_with fail
      refine (HHD.out _ (below_then' HB5.out HB6.out)).mono ?_
      rintro r w7 ⟨rfl, hb7⟩
      have HB7 := Lib.hid (below_then' HB6.out hb7)
      have c7 : w7.cell? ⟨w4.heap.size, 8, none⟩ = some (.bool true) := by rw [HB7.out.cell HS5.out]; exact HC5.out
      clear hb7
      go_wp2_with fail
      refine (HHD.out _ (below_then' HB5.out HB7.out)).mono ?_
      rintro r w8 ⟨rfl, hb8⟩
      have HB8 := Lib.hid (below_then' HB7.out hb8)
      clear hb8 c7
      go_wp2_with fail
      refine (HCD.out _ (below_then' HB5.out HB8.out)).mono ?_
      rintro r w9 ⟨rfl, hb9⟩
      have HB9 := Lib.hid (below_then' HB8.out hb9)
      clear hb9
      go_wp2_with fail
      go_ret
      exact ⟨rfl, HBF.out _ (below_then' HB5.out HB9.out)⟩
    · rw [show S1.closed = false by simpa using hc]
      clear hc
      go_wp2_with fail
      refine (HLI.out _).mono ?_
      rintro r w5 ⟨rfl, hb5⟩
      have HB5 := Lib.hid (show Below w3.heap.size w3 w5 from below_then' (below_alloc HB4.out _) hb5)
      have c5 := (hb5.cell (p := ⟨w4.heap.size, 8, none⟩) (by simp)).trans (World.cell?_alloc_at _ _ _ _ rfl)
      have HC5 := Lib.hid (show w5.cell? ⟨w4.heap.size, 8, none⟩ = some (.bool false) from c5)
      have HS5 := Lib.hid (show w4.heap.size < w5.heap.size by have := hb5.size; simp at this; omega)
      clear hb5 c5 p0 p1 p2 p3 p4 p5
      go_wp2_with fail
      refine (HAL.out _).mono ?_
      rintro r w6 ⟨rfl, hb6⟩
      have HB6 := Lib.hid hb6
      clear hb6
      go_wp2_with fail
      refine (HHD.out _ (below_then' HB5.out HB6.out)).mono ?_
      rintro r w7 ⟨rfl, hb7⟩
      have HB7 := Lib.hid (below_then' HB6.out hb7)
      have c7 : w7.cell? ⟨w4.heap.size, 8, none⟩ = some (.bool false) := by rw [HB7.out.cell HS5.out]; exact HC5.out
      clear hb7
      go_wp2_with fail
      go_ret
      exact ⟨rfl, HBF.out _ (below_then' HB5.out HB7.out)⟩

end Go.Proofs.Ytdiiolbkjmhmdaa
