/- The law HeaderMarkers. -/
import Derived.Test.YtdiiolbkjmhmdaaHdV
import Derived.Test.YtdiiolbkjmhmdaaHdK
namespace Go.Proofs.Ytdiiolbkjmhmdaa
open Go.RowKit
set_option linter.unusedSimpArgs false
set_option linter.unusedVariables false

/-- A row of bytes at a block, none of it frozen. -/
def RowU (w : World) (g n : Nat) (f : Nat → Int) : Prop := g < w.heap.size ∧ ∀ j, j < n → w.cell? ⟨g, j, none⟩ = some (.int .u8 (f j)) ∧ w.frozen? ⟨g, j, none⟩ = false
theorem RowU.set {w : World} {g n : Nat} {f : Nat → Int} (h : RowU w g n f) (k : Nat) (y : Int) (f' : Nat → Int) (h1 : k < n → f' k = y) (h2 : ∀ j, j ≠ k → f' j = f j) : RowU (w.setCell ⟨g, k, none⟩ (.int .u8 y)) g n f' := by
  refine ⟨by simpa using h.1, fun j hj => ⟨?_, by simpa using (h.2 j hj).2⟩⟩
  by_cases e : j = k
  · subst e
    rw [World.cell?_setCell_same _ _ _ (h.2 j hj).1, h1 hj]
  · rw [World.cell?_setCell_other _ _ _ _ (addr_ne (.inr fun h => e h.symm)), (h.2 j hj).1, h2 j e]
theorem RowU.own {w : World} {base n : Nat} {v : Value} {xs : List Int} (h : w.ownsRow base 5 1 v n (bv xs)) (hn : 0 < n) (hl : n = xs.length) : ∃ g c, v = .slice (some ⟨g, 0, none⟩) n c ∧ base ≤ g ∧ n ≤ c ∧ c ≤ maxLen ∧ RowU w g n (fun j => xs.getD j 0) := by
  have h0 := h
  rcases h.2 with ⟨rfl, e⟩ | ⟨g, cap, cur, rfl, hb, hg, hnc, hcm, hcs, ht⟩
  · omega
  · refine ⟨g, cap, rfl, hb, hnc, hcm, (Array.getElem?_eq_some_iff.1 hg).1, fun j hj => ⟨?_, ?_⟩⟩
    · have := h0.cells (g := g) rfl j (.int .u8 (xs.getD j 0)) (bv_at (by omega))
      rw [add_plain] at this
      exact this
    · simp [World.frozen?, hg]
theorem RowU.rd {w : World} {g n c : Nat} {f : Nat → Int} (h : RowU w g n f) (hf : ∀ j, j < n → 0 ≤ f j ∧ f j ≤ 255) (hn : n ≤ maxB) (hc : n ≤ c) (hc2 : c ≤ 9223372036854775807) : RdB w (.slice (some ⟨g, 0, none⟩) n c) ((List.range n).map f) := by
  have hl : ((List.range n).map f).length = n := by simp
  refine ⟨fun x hx => ?_, by rw [hl]; exact hn, some ⟨g, 0, none⟩, c, by rw [hl], by rw [hl]; exact hc, ⟨hc2, fun h => nomatch h⟩, fun _ => ⟨g, 0, rfl, h.1, fun j hj => ?_⟩⟩
  · obtain ⟨j, hj, rfl⟩ := List.mem_map.1 hx
    exact hf j (List.mem_range.1 hj)
  · rw [hl] at hj
    rw [Nat.zero_add, (h.2 j hj).1]
    simp [List.getD_eq_getElem?_getD, hj]
def mk255 (xs : List Int) (k : Nat) (j : Nat) : Int := if j < k then 255 else xs.getD j 0
def mkx (xs : List Int) (i : Nat) (x : Int) (j : Nat) : Int := if j = i then x else mk255 xs i j
theorem mkx_mark (xs : List Int) (i m : Nat) (x : Int) (hx : ¬ x = 255) (hi : i < m) (h16 : i < 16) : mark (((List.range m).map (mkx xs i x)).take 16) = some i := by
  have hg : ∀ j, j < m → j < 16 → (((List.range m).map (mkx xs i x)).take 16).getD j 0 = mkx xs i x j := fun j h1 h2 => by
    rw [getD_take _ h2]; simp [List.getD_eq_getElem?_getD, h1]
  refine mark_some (by simp; omega) (fun j hj => ?_) ?_
  · rw [hg j (by omega) (by omega)]; simp [mkx, mk255, hj]; omega
  · rw [hg i hi h16]; simpa [mkx] using hx

set_option maxRecDepth 100000 in
set_option maxHeartbeats 1000000 in
theorem markers_walk (w : World) (A : Option Addr) (m cap : Nat) (h300 : ¬ 300 < m) (a b c d e f : Bool) (xs : List Int) (hr : RdB w (.slice A m cap) xs) (p x : Int) (i : Nat) (hi : p.tmod 16 = i) (hi2 : i < 16) (him : i < m) (hx : 0 ≤ x ∧ x ≤ 255) (hx2 : ¬ x = 255) (hp : 0 ≤ p ∧ p ≤ 255) :
    Calls Try.prog 5 #[.agg #[.bool a, .bool b, .bool c, .bool d, .bool e, .bool f], .slice A m cap, .agg #[.int .u8 p, .int .u8 x]] w (RB true w) := by
  have h : (m : Int) ≤ 300 := by omega
  have h2 : ¬ (m : Int) ≤ i := by omega
  have hx3 : (x == 255) = false := by simpa using hx2
  have hml := Lib.hid hr.len.1
  have HX := Lib.hid hx
  have HX2 := Lib.hid hx2
  have HR := Lib.hid hr
  have hiw : IntKind.i64.wrap (p.tmod 16) = i := by rw [hi, IntKind.wrap_i64]; omega
  have hpw : IntKind.i64.wrap p = p := by rw [IntKind.wrap_i64]; omega
  clear hr hx hx2
  go_enter Try.func5, Try.ntmps5
  go_wp2_with fail
  go_quiet (fail)
  go_wp2_with fail
  have hbA : Below w.heap.size w (((w.alloc (.cells #[.bool a, .bool b, .bool c, .bool d, .bool e, .bool f] 23)).alloc (.cells #[.int .u8 p, .int .u8 x] 45)).drewN nq) := below_drewN (below_alloc (below_alloc (Below.refl _ _) _) _) nq
  refine (clone_any _ _ xs (HR.out.below hbA)).mono ?_
  rintro r w1 ⟨A1, c1, rfl, ho, hb⟩
  rw [← hml.out] at ho ⊢
  obtain ⟨g, c2, e2, hg, hnc, hcm, hrow⟩ := RowU.own ho (by omega) hml.out
  injection e2 with e3 e4 e5
  subst e3 e5
  have HB1 := Lib.hid (below_then' hbA hb)
  have o0 : ∀ (j : Nat) (u : Value), (#[.bool a, .bool b, .bool c, .bool d, .bool e, .bool f] : Array Value)[j]? = some u → w1.cell? ⟨w.heap.size, j, none⟩ = some u := fun j u hu => by
    rw [hb.cell (by simp; omega)]
    show World.cell? _ _ = _
    rw [World.cell?_drewN, World.cell?_alloc_past _ _ _ (by simp), World.cell?_alloc_at _ _ _ _ rfl]; exact hu
  have O0 := Lib.hid o0
  have hgw : w.heap.size < g := by simp at hg; omega
  have HU := Lib.hid hrow
  have hc63 : c1 ≤ 9223372036854775807 := by unfold maxLen at hcm; omega
  have HC := Lib.hid (And.intro hnc hc63)
  clear ho hb hbA hrow o0 hg hcm hnc hc63 e4
  go_wp2_with fail
  go_loopw [10] (fun kv wr => ∃ k : Nat, k ≤ i ∧ kv = .int .i64 k ∧ RowU wr g m (mk255 xs k) ∧ Below g w1 wr) (fun kv _ => i - (intOf kv).toNat)
  case atStart => exact ⟨0, by omega, rfl, by rw [show mk255 xs 0 = fun j => xs.getD j 0 by funext j; simp [mk255]]; exact HU.out, Below.refl _ _⟩
  case round =>
    obtain ⟨k, hk, rfl, hU, hbr⟩ := hrel
    by_cases hlt : k < i
    · have hck := (hU.2 k (by omega)).1
      have hfk := (hU.2 k (by omega)).2
      have hkm : (k : Int) < m := by omega
      have hU' := Lib.hid hU
      have hBR := Lib.hid hbr
      clear hU hbr
      go_wp2_with fail
      go_roundw
      case rel => exact ⟨k + 1, by omega, by go_num, hU'.out.set k 255 _ (fun _ => by simp [mk255]) (fun j hj => by simp only [mk255]; by_cases h : j < k <;> simp [h] <;> omega), hBR.out.setCell (Nat.le_refl _) _⟩
      case measure => simp [intOf]; omega
    · obtain rfl : k = i := by omega
      have hck := (hU.2 k him).1
      have hfk := (hU.2 k him).2
      have hU2 := hU.set k x (mkx xs k x) (fun _ => by simp [mkx]) (fun j hj => by simp [mkx, hj])
      have hkm : (k : Int) < m := by omega
      have hb2 : Below g w1 (wr.setCell ⟨g, k, none⟩ (.int .u8 x)) := hbr.setCell (Nat.le_refl _) _
      have hx0 := HX.out
      have hrd := hU2.rd (c := c1) (fun j hj => by
        unfold mkx mk255
        by_cases h1 : j = k
        · simp [h1]; exact hx0
        · by_cases h2 : j < k
          · simp [h1, h2]
          · simp only [h1, h2, if_false]; exact HR.out.get (by rw [← hml.out]; exact hj)) (by unfold maxB; omega) HC.out.1 HC.out.2
      have HP := Lib.hid ((parse_hdr _ _ _ _ _ hrd a b c d e f).1 _ hrd)
      rw [hdr_mark (mkx_mark xs k m x HX2.out him hi2)] at HP
      have hq : ∀ (j : Nat) (u : Value), w1.cell? ⟨w.heap.size, j, none⟩ = some u → (wr.setCell ⟨g, k, none⟩ (.int .u8 x)).cell? ⟨w.heap.size, j, none⟩ = some u := fun j u hu => by
        rw [hb2.cell hgw]; exact hu
      have k0 := hq _ _ (O0.out 0 _ rfl)
      have k1 := hq _ _ (O0.out 1 _ rfl)
      have k2 := hq _ _ (O0.out 2 _ rfl)
      have k3 := hq _ _ (O0.out 3 _ rfl)
      have k4 := hq _ _ (O0.out 4 _ rfl)
      have k5 := hq _ _ (O0.out 5 _ rfl)
      have HB2 := Lib.hid (HB1.out.trans (hb2.mono (Nat.le_of_lt hgw)))
      clear hU hbr hU2 hb2 hrd hq hx0
      go_wp2_with fail
      refine HP.out.mono ?_
      rintro r w2 ⟨A2, c2, rfl, hr2, hb2⟩
      rw [List.length_nil] at hr2 ⊢
      have HR2 := Lib.hid hr2
      have HB3 := Lib.hid (below_then' HB2.out hb2)
      clear hr2 hb2 HP
      go_wp2_with fail
      obtain ⟨W4, hW4⟩ : ∃ W4, W4 = (w2.alloc (.cells #[.int .i64 0, .int .i64 0] 28)).alloc (.cells #[.int .i64 4, .int .i64 1, .int .i64 1, .slice A2 0 c2, .int .i64 k] 38) := ⟨_, rfl⟩
      rw [← hW4]
      have hbW : Below w2.heap.size w2 W4 := by rw [hW4]; exact below_alloc (below_alloc (Below.refl _ _) _) _
      have hsW : W4.heap.size = w2.heap.size + 2 := by rw [hW4]; simp
      have HG : Hid (∀ W, Below W4.heap.size W4 W → (W.cell? ⟨w2.heap.size, 0, none⟩ = some (.int .i64 0) ∧ W.cell? ⟨w2.heap.size, 1, none⟩ = some (.int .i64 0)) ∧
          (W.cell? ⟨w2.heap.size + 1, 0, none⟩ = some (.int .i64 4) ∧ W.cell? ⟨w2.heap.size + 1, 1, none⟩ = some (.int .i64 1) ∧ W.cell? ⟨w2.heap.size + 1, 2, none⟩ = some (.int .i64 1) ∧ W.cell? ⟨w2.heap.size + 1, 3, none⟩ = some (.slice A2 0 c2) ∧ W.cell? ⟨w2.heap.size + 1, 4, none⟩ = some (.int .i64 k))) := fun W hW => by
        have q : ∀ (B j : Nat) (u : Value), B < W4.heap.size → W4.cell? ⟨B, j, none⟩ = some u → W.cell? ⟨B, j, none⟩ = some u := fun B j u hB hc => by
          rw [hW.cell (by simp; omega)]; exact hc
        refine ⟨⟨q _ _ _ (by omega) ?_, q _ _ _ (by omega) ?_⟩, ⟨q _ _ _ (by omega) ?_, q _ _ _ (by omega) ?_, q _ _ _ (by omega) ?_, q _ _ _ (by omega) ?_, q _ _ _ (by omega) ?_⟩⟩
        iterate 2 (rw [hW4, World.cell?_alloc_past _ _ _ (by simp), World.cell?_alloc_at _ _ _ _ rfl]; rfl)
        iterate 5 (rw [hW4, World.cell?_alloc_at _ _ _ _ (by simp)]; rfl)
      have HBW := Lib.hid hbW
      clear hbW hsW hW4 k0 k1 k2 k3 k4 k5 hck hfk
      refine (alive_any _).mono ?_
      rintro r w5 ⟨rfl, hb5⟩
      have HB5 := Lib.hid hb5
      obtain ⟨⟨y0, y1⟩, ⟨r0, r1, r2, r3, r4⟩⟩ := HG.out w5 hb5
      clear hb5
      go_wp2_with fail
      refine (same_any _ 4 1 1 k A2 none 0 c2 0 [] ((HR2.out.below HBW.out).below HB5.out) (RdB.nil _ none 0 ⟨by omega, fun _ => rfl⟩)).mono ?_
      rintro r w6 ⟨rfl, hb6⟩
      have HB6 := Lib.hid (below_then' HB5.out hb6)
      clear y0 y1 r0 r1 r2 r3 r4 hb6
      go_wp2_with fail
      go_ret
      exact ⟨rfl, below_then' (below_then' HB3.out HBW.out) HB6.out⟩

set_option maxRecDepth 100000 in
set_option maxHeartbeats 1000000 in
theorem markers_off (w : World) (A : Option Addr) (m cap : Nat) (a b c d e f : Bool) (p x : Int) (i : Nat) (hi : p.tmod 16 = i) (hi2 : i < 16) (hp : 0 ≤ p ∧ p ≤ 255) (X Y Z : Bool) (hX : decide ((300 : Int) < m) = X) (hY : decide (m ≤ i) = Y) (hZ : (x == 255) = Z) (hXYZ : (X || Y || Z) = true) :
    Calls Try.prog 5 #[.agg #[.bool a, .bool b, .bool c, .bool d, .bool e, .bool f], .slice A m cap, .agg #[.int .u8 p, .int .u8 x]] w (RB true w) := by
  have hiw : IntKind.i64.wrap (p.tmod 16) = i := by rw [hi, IntKind.wrap_i64]; omega
  have hpw : IntKind.i64.wrap p = p := by rw [IntKind.wrap_i64]; omega
  cases X <;> cases Y <;> cases Z <;> first | (exfalso; revert hXYZ; decide) | skip
  all_goals
    go_enter Try.func5, Try.ntmps5
    go_wp2_with fail
    go_quiet (fail)
    go_wp2_with fail
    refine (alive_any _).mono ?_
    rintro r w1 ⟨rfl, hb⟩
    have HB := Lib.hid (below_then' (below_drewN (below_alloc (below_alloc (Below.refl _ _) _) _) nq) hb)
    clear hb
    go_wp2_with fail
    go_ret
    exact ⟨rfl, HB.out⟩

theorem markers_any (a b c d e f : Bool) (A : Option Addr) (m cap : Nat) (xs : List Int) (p x : Int) (w : World) (hr : m ≤ maxB → RdB w (.slice A m cap) xs) (hp : 0 ≤ p ∧ p ≤ 255) (hx : 0 ≤ x ∧ x ≤ 255) :
    Calls Try.prog 5 #[.agg #[.bool a, .bool b, .bool c, .bool d, .bool e, .bool f], .slice A m cap, .agg #[.int .u8 p, .int .u8 x]] w (RB true w) := by
  obtain ⟨i, hi⟩ : ∃ i : Nat, p.tmod 16 = i := ⟨(p.tmod 16).toNat, by rw [Int.tmod_eq_emod_of_nonneg hp.1]; omega⟩
  have hi2 : i < 16 := by rw [Int.tmod_eq_emod_of_nonneg hp.1] at hi; omega
  by_cases h : ¬ 300 < m ∧ i < m ∧ ¬ x = 255
  · exact markers_walk w A m cap h.1 a b c d e f xs (hr (by unfold maxB; omega)) p x i hi hi2 h.2.1 hx h.2.2 hp
  · refine markers_off w A m cap a b c d e f p x i hi hi2 hp _ _ _ rfl rfl rfl ?_
    simp only [Bool.or_eq_true, decide_eq_true_eq, beq_iff_eq]
    omega

end Go.Proofs.Ytdiiolbkjmhmdaa
