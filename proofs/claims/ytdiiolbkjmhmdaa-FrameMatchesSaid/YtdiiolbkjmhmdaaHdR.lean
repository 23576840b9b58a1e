/- The reference's Parse. -/
import Derived.Test.YtdiiolbkjmhmdaaHdP
import Derived.Test.YtdiiolbkjmhmdaaHdF
namespace Go.Proofs.Ytdiiolbkjmhmdaa
open Go.RowKit
set_option linter.unusedSimpArgs false
set_option linter.unusedVariables false

/-- What the reference's Parse hands back. -/
def RfP (n k a b c e : Int) (ds : List Int) (w : World) (r : Ending) (w' : World) : Prop :=
  ∃ A cp, r = .returned (.tuple #[.int .i64 n, .int .i64 k, .agg #[.int .i64 a, .int .i64 b, .int .i64 c, .slice A ds.length cp, .int .i64 e]]) ∧ RdB w' (.slice A ds.length cp) ds ∧ Below w.heap.size w w'
/-- The cells that the reference's Parse lays at its start. -/
def RC (N : Nat) (a b c d e f : Bool) (w : World) : Prop :=
  (w.cell? ⟨N, 0, none⟩ = some (.bool a) ∧ w.cell? ⟨N, 1, none⟩ = some (.bool b) ∧ w.cell? ⟨N, 2, none⟩ = some (.bool c) ∧ w.cell? ⟨N, 3, none⟩ = some (.bool d) ∧ w.cell? ⟨N, 4, none⟩ = some (.bool e) ∧ w.cell? ⟨N, 5, none⟩ = some (.bool f)) ∧
  (w.cell? ⟨N + 1, 0, none⟩ = some (.int .i64 0) ∧ w.cell? ⟨N + 1, 1, none⟩ = some (.int .i64 0) ∧ w.cell? ⟨N + 1, 2, none⟩ = some (.int .i64 0) ∧ w.cell? ⟨N + 1, 3, none⟩ = some (.slice none 0 0) ∧ w.cell? ⟨N + 1, 4, none⟩ = some (.int .i64 0)) ∧
  (∀ j, w.frozen? ⟨N + 1, j, none⟩ = false)
theorem RC.below {N B : Nat} {a b c d e f : Bool} {w w' : World} (h : RC N a b c d e f w) (hb : Below B w w') (hN : N + 2 ≤ B) : RC N a b c d e f w' := by
  obtain ⟨⟨p0, p1, p2, p3, p4, p5⟩, ⟨r0, r1, r2, r3, r4⟩, f1⟩ := h
  have g : ∀ (b j : Nat) (v : Value), b < N + 2 → w.cell? ⟨b, j, none⟩ = some v → w'.cell? ⟨b, j, none⟩ = some v := fun b j v hB hc => by rw [hb.cell (by simp; omega)]; exact hc
  exact ⟨⟨g _ _ _ (by omega) p0, g _ _ _ (by omega) p1, g _ _ _ (by omega) p2, g _ _ _ (by omega) p3, g _ _ _ (by omega) p4, g _ _ _ (by omega) p5⟩, ⟨g _ _ _ (by omega) r0, g _ _ _ (by omega) r1, g _ _ _ (by omega) r2, g _ _ _ (by omega) r3, g _ _ _ (by omega) r4⟩,
    fun j => by rw [hb.frozen (by simp; omega)]; exact f1 j⟩
def rw0 (w : World) (a b c d e f : Bool) : World := (w.alloc (.cells #[.bool a, .bool b, .bool c, .bool d, .bool e, .bool f] 23)).alloc (.cells #[.int .i64 0, .int .i64 0, .int .i64 0, .slice none 0 0, .int .i64 0] 38)
theorem RC.start (w : World) (a b c d e f : Bool) : RC w.heap.size a b c d e f (rw0 w a b c d e f) := by
  unfold rw0
  refine ⟨⟨?_, ?_, ?_, ?_, ?_, ?_⟩, ⟨?_, ?_, ?_, ?_, ?_⟩, fun j => ?_⟩
  iterate 6 (rw [World.cell?_alloc_past _ _ _ (by simp), World.cell?_alloc_at _ _ _ _ rfl]; rfl)
  iterate 5 (rw [World.cell?_alloc_at _ _ _ _ (by simp)]; rfl)
  · rw [World.frozen?_alloc_at _ _ _ _ (by simp)]
theorem rw0_size (w : World) (a b c d e f : Bool) : (rw0 w a b c d e f).heap.size = w.heap.size + 2 := by simp [rw0]
theorem rw0_below (w : World) (a b c d e f : Bool) : Below w.heap.size w (rw0 w a b c d e f) := below_alloc (below_alloc (Below.refl _ _) _) _
/-- The world behind the stores of the verdict. -/
def rset (N : Nat) (w : World) (a b c : Int) (D : Value) (e : Int) : World :=
  ((((w.setCell ⟨N + 1, 0, none⟩ (.int .i64 a)).setCell ⟨N + 1, 1, none⟩ (.int .i64 b)).setCell ⟨N + 1, 2, none⟩ (.int .i64 c)).setCell ⟨N + 1, 3, none⟩ D).setCell ⟨N + 1, 4, none⟩ (.int .i64 e)
theorem rset_cell {N : Nat} {w : World} {a b c : Int} {D : Value} {e : Int} {q : Addr} (h1 : q.block ≠ N + 1) : (rset N w a b c D e).cell? q = w.cell? q := by
  unfold rset
  iterate 5 rw [cell_set_other (by exact h1)]
theorem rset_below {w W : World} {a b c : Int} {D : Value} {e : Int} (hb : Below w.heap.size w W) : Below w.heap.size w (rset w.heap.size W a b c D e) := by
  unfold rset
  exact ((((hb.setCell (by simp) _).setCell (by simp) _).setCell (by simp) _).setCell (by simp) _).setCell (by simp) _
theorem rset_size {N : Nat} {w : World} {a b c : Int} {D : Value} {e : Int} : (rset N w a b c D e).heap.size = w.heap.size := by simp [rset]
theorem rp_end {w W : World} {n k a b c e : Int} {ds : List Int} (A : Option Addr) (cp : Nat) (hb : Below w.heap.size w W) (hd : RdB W (.slice A ds.length cp) ds) (hA : ∀ g o, A = some ⟨g, o, none⟩ → w.heap.size + 2 ≤ g) :
    RfP n k a b c e ds w (.returned (.tuple #[.int .i64 n, .int .i64 k, .agg #[.int .i64 a, .int .i64 b, .int .i64 c, .slice A ds.length cp, .int .i64 e]])) (rset w.heap.size W a b c (.slice A ds.length cp) e) := by
  refine ⟨A, cp, rfl, ?_, rset_below hb⟩
  obtain ⟨h1, h2, A', c', e, h3, h4, h5⟩ := hd
  injection e with e1 e2 e3
  subst e1 e3
  refine ⟨h1, h2, A, cp, rfl, h3, h4, fun hp => ?_⟩
  obtain ⟨g, o, e, hg, hc⟩ := h5 hp
  have := hA g o e
  exact ⟨g, o, e, by rw [rset_size]; exact hg, fun j hj => by rw [rset_cell (by simp; omega)]; exact hc j hj⟩

set_option maxRecDepth 100000 in
set_option maxHeartbeats 4000000 in
theorem ref_mark (w : World) (A : Option Addr) (m cap : Nat) (xs : List Int) (hr : RdB w (.slice A m cap) xs) (a b c d e f : Bool) (p : Nat) (hp : p < 16) (hpm : p < m) (hlow : ∀ j, j < p → xs.getD j 0 = 255) (hat : ¬ xs.getD p 0 = 255) :
    Calls Try.prog 23 #[.agg #[.bool a, .bool b, .bool c, .bool d, .bool e, .bool f], .slice A m cap] w (RfP 0 0 4 1 1 p [] w) := by
  obtain ⟨hml, hmc, hcap⟩ := hr.len
  have hm := hr.2.1
  unfold maxB at hm
  have hm' : m ≤ 140737488351232 := by omega
  have hm63 : (m : Int) ≤ 9223372036854775807 := by omega
  have HML := Lib.hid hml
  obtain ⟨ga, oa, eA, hga, hcells⟩ : ∃ g o, A = some ⟨g, o, none⟩ ∧ g < w.heap.size ∧ ∀ j, j < xs.length → w.cell? ⟨g, o + j, none⟩ = some (.int .u8 (xs.getD j 0)) := by
    obtain ⟨h1, h2, A', c', e, h3, h4, h5⟩ := hr
    injection e with e1 e2 e3
    subst e1
    exact h5 (by omega)
  subst eA
  have HK : Hid (∀ W, Below w.heap.size w W → ∀ j, j < m → W.cell? ⟨ga, oa + j, none⟩ = some (.int .u8 (xs.getD j 0))) := fun W hb j hj => by
    rw [hb.cell hga, hcells j (by omega)]
  clear hcells
  have HL := Lib.hid hlow
  have HA := Lib.hid hat
  clear hlow hat
  clear hm hml hr
  obtain ⟨W0, hW0⟩ : ∃ W0, W0 = rw0 w a b c d e f := ⟨_, rfl⟩
  have HW := Lib.hid hW0
  have HB := Lib.hid (show Below w.heap.size w W0 by rw [hW0]; exact rw0_below w a b c d e f)
  have HS := Lib.hid (show W0.heap.size = w.heap.size + 2 by rw [hW0]; exact rw0_size w a b c d e f)
  have HC := Lib.hid (show RC w.heap.size a b c d e f W0 by rw [hW0]; exact RC.start w a b c d e f)
  clear hW0
  go_enter Try.func23, Try.ntmps23
  go_wp2_with fail
  rw [show (w.alloc (.cells #[.bool a, .bool b, .bool c, .bool d, .bool e, .bool f] 23)).alloc (.cells #[.int .i64 0, .int .i64 0, .int .i64 0, .slice none 0 0, .int .i64 0] 38) = W0 from HW.out.symm]
  go_loop [7] (fun i => ∃ j : Nat, j ≤ p ∧ i = .int .i64 j) (fun i => p - (intOf i).toNat)
  case atStart => exact ⟨0, by omega, rfl⟩
  case round =>
    obtain ⟨j, hj, rfl⟩ := hrel
    have j16 : (j : Int) < 16 := by omega
    have jm : (j : Int) < m := by omega
    by_cases hlt : j < p
    · have hcx : W0.cell? ⟨ga, oa + j, none⟩ = some (.int .u8 255) := by rw [HK.out W0 HB.out j (by omega), HL.out j hlt]
      go_wp2_with fail
      go_round
      case rel => exact ⟨j + 1, by omega, by go_num⟩
      case measure => simp [intOf]; omega
    · obtain rfl : j = p := by omega
      obtain ⟨x, hx⟩ : ∃ x, x = xs.getD j 0 := ⟨_, rfl⟩
      have hcx : W0.cell? ⟨ga, oa + j, none⟩ = some (.int .u8 x) := by rw [hx]; exact HK.out W0 HB.out j hpm
      have hne : (x != 255) = true := by rw [hx]; simpa using HA.out
      clear hx
      go_wp2_with fail
      refine (bad_any _ _ _ _ _ _).mono ?_
      rintro r w2 ⟨rfl, hb2⟩
      have HB2 := Lib.hid hb2
      have HCX := Lib.hid (HC.out.below hb2 (by have := HS.out; omega))
      clear hb2
      obtain ⟨⟨p0, p1, p2, p3, p4, p5⟩, ⟨r0, r1, r2, r3, r4⟩, f1⟩ := HCX.out
      go_wp2_with fail
      refine bodyPost_ret (v := .tuple #[.int .i64 0, .int .i64 0, .agg #[.int .i64 4, .int .i64 1, .int .i64 1, .slice none 0 0, .int .i64 j]]) (by simp [results, Try.results23, go_sem, *]) rfl ?_
      exact rp_end none 0 (below_then' HB.out HB2.out) (RdB.nil _ none 0 ⟨by omega, fun _ => rfl⟩) (fun _ _ e => nomatch e)

set_option maxRecDepth 100000 in
set_option maxHeartbeats 4000000 in
theorem ref_short (w : World) (A : Option Addr) (m cap : Nat) (xs : List Int) (hr : RdB w (.slice A m cap) xs) (a b c d e f : Bool) (hlow : ∀ j, j < 16 → j < m → xs.getD j 0 = 255) (h19 : m < 19) :
    Calls Try.prog 23 #[.agg #[.bool a, .bool b, .bool c, .bool d, .bool e, .bool f], .slice A m cap] w (RfP 0 0 4 1 2 m [] w) := by
  obtain ⟨hml, hmc, hcap⟩ := hr.len
  have hm := hr.2.1
  unfold maxB at hm
  have hm' : m ≤ 140737488351232 := by omega
  have hm63 : (m : Int) ≤ 9223372036854775807 := by omega
  have HML := Lib.hid hml
  have HL := Lib.hid hlow
  have h19' : (m : Int) < 19 := by omega
  have HK : Hid (∀ W, Below w.heap.size w W → ∀ j, j < m → ∃ ga oa, A = some ⟨ga, oa, none⟩ ∧ W.cell? ⟨ga, oa + j, none⟩ = some (.int .u8 (xs.getD j 0))) := fun W hb j hj => by
    obtain ⟨h1, h2, A', c', e, h3, h4, h5⟩ := hr
    injection e with e1 e2 e3
    subst e1
    obtain ⟨g, o, e, hg, hc⟩ := h5 (by omega)
    exact ⟨g, o, e, by rw [hb.cell hg, hc j (by omega)]⟩
  clear hlow
  clear hm hml hr
  obtain ⟨W0, hW0⟩ : ∃ W0, W0 = rw0 w a b c d e f := ⟨_, rfl⟩
  have HW := Lib.hid hW0
  have HB := Lib.hid (show Below w.heap.size w W0 by rw [hW0]; exact rw0_below w a b c d e f)
  have HS := Lib.hid (show W0.heap.size = w.heap.size + 2 by rw [hW0]; exact rw0_size w a b c d e f)
  have HC := Lib.hid (show RC w.heap.size a b c d e f W0 by rw [hW0]; exact RC.start w a b c d e f)
  clear hW0
  go_enter Try.func23, Try.ntmps23
  go_wp2_with fail
  rw [show (w.alloc (.cells #[.bool a, .bool b, .bool c, .bool d, .bool e, .bool f] 23)).alloc (.cells #[.int .i64 0, .int .i64 0, .int .i64 0, .slice none 0 0, .int .i64 0] 38) = W0 from HW.out.symm]
  go_loop [7] (fun i => ∃ j : Nat, j ≤ 16 ∧ j ≤ m ∧ i = .int .i64 j) (fun i => 16 - (intOf i).toNat)
  case atStart => exact ⟨0, by omega, by omega, rfl⟩
  case round =>
    obtain ⟨j, hj, hjm, rfl⟩ := hrel
    have fin : Hid (∀ w2, Below W0.heap.size W0 w2 → RfP 0 0 4 1 2 m [] w (.returned (.tuple #[.int .i64 0, .int .i64 0, .agg #[.int .i64 4, .int .i64 1, .int .i64 2, .slice none 0 0, .int .i64 m]])) (rset w.heap.size w2 4 1 2 (.slice none 0 0) m)) := fun w2 hb => rp_end none 0 (below_then' HB.out hb) (RdB.nil _ none 0 ⟨by omega, fun _ => rfl⟩) (fun _ _ e => nomatch e)
    by_cases hlt : j < m
    · by_cases hlt6 : j < 16
      · obtain ⟨ga, oa, rfl, hcx0⟩ := HK.out W0 HB.out j hlt
        have hcx : W0.cell? ⟨ga, oa + j, none⟩ = some (.int .u8 255) := by rw [hcx0, HL.out j hlt6 hlt]
        have j16 : (j : Int) < 16 := by omega
        have jm : (j : Int) < m := by omega
        clear hcx0
        go_wp2_with fail
        go_round
        case rel => exact ⟨j + 1, by omega, by omega, by go_num⟩
        case measure => simp [intOf]; omega
      · have j16 : ¬ (j : Int) < 16 := by omega
        go_wp2_with fail
        refine (bad_any _ _ _ _ _ _).mono ?_
        rintro r w2 ⟨rfl, hb2⟩
        have HB2 := Lib.hid hb2
        have HCX := Lib.hid (HC.out.below hb2 (by have := HS.out; omega))
        clear hb2
        obtain ⟨⟨p0, p1, p2, p3, p4, p5⟩, ⟨r0, r1, r2, r3, r4⟩, f1⟩ := HCX.out
        go_wp2_with fail
        refine bodyPost_ret (v := .tuple #[.int .i64 0, .int .i64 0, .agg #[.int .i64 4, .int .i64 1, .int .i64 2, .slice none 0 0, .int .i64 m]]) (by simp [results, Try.results23, go_sem, *]) rfl ?_
        exact fin.out w2 HB2.out
    · have j16 : ¬ (j : Int) < m := by omega
      by_cases hlt6 : j < 16
      · have j17 : (j : Int) < 16 := by omega
        go_wp2_with fail
        refine (bad_any _ _ _ _ _ _).mono ?_
        rintro r w2 ⟨rfl, hb2⟩
        have HB2 := Lib.hid hb2
        have HCX := Lib.hid (HC.out.below hb2 (by have := HS.out; omega))
        clear hb2
        obtain ⟨⟨p0, p1, p2, p3, p4, p5⟩, ⟨r0, r1, r2, r3, r4⟩, f1⟩ := HCX.out
        go_wp2_with fail
        refine bodyPost_ret (v := .tuple #[.int .i64 0, .int .i64 0, .agg #[.int .i64 4, .int .i64 1, .int .i64 2, .slice none 0 0, .int .i64 m]]) (by simp [results, Try.results23, go_sem, *]) rfl ?_
        exact fin.out w2 HB2.out
      · have j17 : ¬ (j : Int) < 16 := by omega
        go_wp2_with fail
        refine (bad_any _ _ _ _ _ _).mono ?_
        rintro r w2 ⟨rfl, hb2⟩
        have HB2 := Lib.hid hb2
        have HCX := Lib.hid (HC.out.below hb2 (by have := HS.out; omega))
        clear hb2
        obtain ⟨⟨p0, p1, p2, p3, p4, p5⟩, ⟨r0, r1, r2, r3, r4⟩, f1⟩ := HCX.out
        go_wp2_with fail
        refine bodyPost_ret (v := .tuple #[.int .i64 0, .int .i64 0, .agg #[.int .i64 4, .int .i64 1, .int .i64 2, .slice none 0 0, .int .i64 m]]) (by simp [results, Try.results23, go_sem, *]) rfl ?_
        exact fin.out w2 HB2.out

set_option maxRecDepth 100000 in
set_option maxHeartbeats 4000000 in
theorem ref_l1aT (w : World) (A : Option Addr) (m cap : Nat) (xs : List Int) (hr : RdB w (.slice A m cap) xs) (a c d e f : Bool) (h19 : 19 ≤ m) (hlow : ∀ j, j < 16 → xs.getD j 0 = 255) (n k x16 x17 : Int) (h16 : x16 = xs.getD 16 0) (h17 : x17 = xs.getD 17 0) (hn : n = x16 * 256 + x17) (hk : k = xs.getD 18 0) (l L : Int) (hl : leastK k = l) (hL : limitK true k = L) (hb : n < 19) :
    Calls Try.prog 23 #[.agg #[.bool a, .bool true, .bool c, .bool d, .bool e, .bool f], .slice A m cap] w (RfP 0 0 4 1 2 16 [x16, x17] w) := by
  obtain ⟨hml, hmc, hcap⟩ := hr.len
  have hm := hr.2.1
  unfold maxB at hm
  have hm' : m ≤ 140737488351232 := by omega
  have hm63 : (m : Int) ≤ 9223372036854775807 := by omega
  have HML := Lib.hid hml
  have b16 := hr.get (j := 16) (by omega)
  have b17 := hr.get (j := 17) (by omega)
  have b18 := hr.get (j := 18) (by omega)
  rw [← h16] at b16
  rw [← h17] at b17
  rw [← hk] at b18
  have hn0 : 0 ≤ n := by omega
  have hn1 : n ≤ 65535 := by omega
  have hw1 : IntKind.i64.wrap (x16 * 256) = x16 * 256 := by rw [IntKind.wrap_i64]; omega
  have hw2 : x16 * 256 + x17 = n := hn.symm
  have hwn : IntKind.i64.wrap n = n := by rw [IntKind.wrap_i64]; omega
  have hwk : IntKind.i64.wrap k = k := by rw [IntKind.wrap_i64]; omega
  have hwa : IntKind.i64.wrap x16 = x16 := by rw [IntKind.wrap_i64]; omega
  have hwb : IntKind.i64.wrap x17 = x17 := by rw [IntKind.wrap_i64]; omega
  obtain ⟨ga, oa, eA, hga, hcells⟩ : ∃ g o, A = some ⟨g, o, none⟩ ∧ g < w.heap.size ∧ ∀ j, j < xs.length → w.cell? ⟨g, o + j, none⟩ = some (.int .u8 (xs.getD j 0)) := by
    obtain ⟨h1, h2, A', c', e, h3, h4, h5⟩ := hr
    injection e with e1 e2 e3
    subst e1
    exact h5 (by omega)
  subst eA
  have HK : Hid (∀ W, Below w.heap.size w W → ∀ j, j < m → W.cell? ⟨ga, oa + j, none⟩ = some (.int .u8 (xs.getD j 0))) := fun W hb j hj => by
    rw [hb.cell hga, hcells j (by omega)]
  clear hcells
  have HL := Lib.hid hlow
  have HX16 := Lib.hid b16
  have HX17 := Lib.hid b17
  have HX18 := Lib.hid b18
  have HH16 := Lib.hid h16
  have HH17 := Lib.hid h17
  have HHK := Lib.hid hk
  have HLE := Lib.hid (fun w => (show Calls Try.prog 20 #[.int .i64 k] w (RV (.int .i64 l) w) from hl ▸ refleast_any k w))
  have HLI := Lib.hid (fun w => (show Calls Try.prog 18 #[.agg #[.bool a, .bool true, .bool c, .bool d, .bool e, .bool f], .int .i64 k] w (RV (.int .i64 L) w) from hL ▸ reflimit_any a true c d e f k w))
  have m16 : (16 : Int) < m := by omega
  have m17 : (17 : Int) < m := by omega
  have m18 : (18 : Int) < m := by omega
  have m19 : (19 : Int) ≤ m := by omega
  clear hlow b16 b17 b18 h16 h17 hn hk hl hL
  clear hm hml hr
  obtain ⟨W0, hW0⟩ : ∃ W0, W0 = rw0 w a true c d e f := ⟨_, rfl⟩
  have HW := Lib.hid hW0
  have HB := Lib.hid (show Below w.heap.size w W0 by rw [hW0]; exact rw0_below w a true c d e f)
  have HS := Lib.hid (show W0.heap.size = w.heap.size + 2 by rw [hW0]; exact rw0_size w a true c d e f)
  have HC := Lib.hid (show RC w.heap.size a true c d e f W0 by rw [hW0]; exact RC.start w a true c d e f)
  clear hW0
  go_enter Try.func23, Try.ntmps23
  go_wp2_with fail
  rw [show (w.alloc (.cells #[.bool a, .bool true, .bool c, .bool d, .bool e, .bool f] 23)).alloc (.cells #[.int .i64 0, .int .i64 0, .int .i64 0, .slice none 0 0, .int .i64 0] 38) = W0 from HW.out.symm]
  go_loop [7] (fun i => ∃ j : Nat, j ≤ 16 ∧ i = .int .i64 j) (fun i => 16 - (intOf i).toNat)
  case atStart => exact ⟨0, by omega, rfl⟩
  case round =>
    obtain ⟨j, hj, rfl⟩ := hrel
    have jm : (j : Int) < m := by omega
    by_cases hlt6 : j < 16
    · have hcx : W0.cell? ⟨ga, oa + j, none⟩ = some (.int .u8 255) := by rw [HK.out W0 HB.out j (by omega), HL.out j hlt6]
      have j16 : (j : Int) < 16 := by omega
      go_wp2_with fail
      go_round
      case rel => exact ⟨j + 1, by omega, by go_num⟩
      case measure => simp [intOf]; omega
    · have j16 : ¬ (j : Int) < 16 := by omega
      obtain ⟨S, hS⟩ : ∃ S, S = fun w' => Below W0.heap.size W0 w' := ⟨_, rfl⟩
      have hSp : ∀ x, S x → Below W0.heap.size W0 x := by rw [hS]; exact fun _ h => h
      have HX := Lib.hid (show ∀ x1 x2, S x1 → Below x1.heap.size x1 x2 → S x2 from by rw [hS]; exact fun x1 x2 h hb => below_then' h hb)
      have HP := Lib.hid (show ∀ p : Wld S, Below W0.heap.size W0 p.w from fun p => hSp _ p.ok)
      have hc : ∀ p : Wld S, RC w.heap.size a true c d e f p.w := fun p => HC.out.below (hSp _ p.ok) (by have := HS.out; omega)
      have HPC := Lib.hid hc
      have c16 : ∀ p : Wld S, p.w.cell? ⟨ga, oa + 16, none⟩ = some (.int .u8 x16) := fun p => by rw [HK.out p.w (below_then' HB.out (hSp _ p.ok)) 16 (by omega), HH16.out]
      have c17 : ∀ p : Wld S, p.w.cell? ⟨ga, oa + 17, none⟩ = some (.int .u8 x17) := fun p => by rw [HK.out p.w (below_then' HB.out (hSp _ p.ok)) 17 (by omega), HH17.out]
      have c18 : ∀ p : Wld S, p.w.cell? ⟨ga, oa + 18, none⟩ = some (.int .u8 k) := fun p => by rw [HK.out p.w (below_then' HB.out (hSp _ p.ok)) 18 (by omega), HHK.out]
      have g0 : ∀ p : Wld S, p.w.cell? ⟨w.heap.size, 0, none⟩ = some (.bool a) := fun p => (hc p).1.1
      have g1 : ∀ p : Wld S, p.w.cell? ⟨w.heap.size, 1, none⟩ = some (.bool true) := fun p => (hc p).1.2.1
      have g2 : ∀ p : Wld S, p.w.cell? ⟨w.heap.size, 2, none⟩ = some (.bool c) := fun p => (hc p).1.2.2.1
      have g3 : ∀ p : Wld S, p.w.cell? ⟨w.heap.size, 3, none⟩ = some (.bool d) := fun p => (hc p).1.2.2.2.1
      have g4 : ∀ p : Wld S, p.w.cell? ⟨w.heap.size, 4, none⟩ = some (.bool e) := fun p => (hc p).1.2.2.2.2.1
      have g5 : ∀ p : Wld S, p.w.cell? ⟨w.heap.size, 5, none⟩ = some (.bool f) := fun p => (hc p).1.2.2.2.2.2
      have HSW := Lib.hid (show S W0.drew by rw [hS]; exact (Below.refl _ _).drew)
      clear hS hSp hc
      go_wp2_with fail
      have hne1 : Nonempty (Wld S) := ⟨⟨_, HSW.out⟩⟩
      refine wp_region_sub S (by kernel_rfl) (by kernel_rfl) (HSW.out) ?_
      repeat (quiet_step (fail))
      refine wpQuiet_nil ?_
      intro _ hw'
      obtain ⟨pq, hw''⟩ := hw'
      subst hw''
      go_wp2_with fail
      have HBY := Lib.hid (show ∀ x ∈ ([x16, x17] : List Int), 0 ≤ x ∧ x ≤ 255 from fun x hx => by
        simp at hx
        rcases hx with rfl | rfl
        · exact HX16.out
        · exact HX17.out)
      have HSZ := Lib.hid (show w.heap.size + 2 ≤ pq.w.heap.size by have := (HP.out pq).size; have := HS.out; omega)
      have d16 := c16 pq
      have d17 := c17 pq
      have d18 := c18 pq
      have hgp : ga < pq.w.heap.size := by have := HSZ.out; omega
      go_region_with (go_at_call 53; refine (bad_any _ _ _ _ _ _).mono ?_; rintro r w7 ⟨rfl, hb7⟩; have HB7 : Hid (Below pq.w.heap.size pq.w w7) := Lib.hid (by first | exact below_then' (below_alloc (Below.refl _ _).drew _) hb7 | exact below_then' (below_alloc (Below.refl _ _) _) hb7 | exact below_then' (below_alloc (Below.refl _ _) _).drew hb7); have HR7 : Hid (RdB w7 (.slice (some ⟨pq.w.heap.size, 0, none⟩) 2 2) [x16, x17]) := Lib.hid (RdB.below (by first | exact RdB.new _ _ rfl #[.int .u8 x16, .int .u8 x17] [x16, x17] rfl HBY.out (by simp) 2 rfl | exact RdB.drew (RdB.new _ _ rfl #[.int .u8 x16, .int .u8 x17] [x16, x17] rfl HBY.out (by simp) 2 rfl)) hb7); have HCX := Lib.hid ((HPC.out pq).below HB7.out HSZ.out); clear hb7; obtain ⟨⟨p0, p1, p2, p3, p4, p5⟩, ⟨r0, r1, r2, r3, r4⟩, f1⟩ := HCX.out)
      all_goals go_wp2_with fail
      all_goals refine bodyPost_ret (v := .tuple #[.int .i64 0, .int .i64 0, .agg #[.int .i64 4, .int .i64 1, .int .i64 2, .slice (some ⟨pq.w.heap.size, 0, none⟩) 2 2, .int .i64 16]]) (by simp [results, Try.results23, go_sem, *]) rfl ?_
      all_goals exact rp_end _ _ (below_then' HB.out ((HP.out pq).trans (HB7.out.mono (HP.out pq).size))) HR7.out (fun g o e => by injection e with e; injection e with e1 _; have := HSZ.out; omega)

set_option maxRecDepth 100000 in
set_option maxHeartbeats 4000000 in
theorem ref_kindT (w : World) (A : Option Addr) (m cap : Nat) (xs : List Int) (hr : RdB w (.slice A m cap) xs) (a c d e f : Bool) (h19 : 19 ≤ m) (hlow : ∀ j, j < 16 → xs.getD j 0 = 255) (n k x16 x17 : Int) (h16 : x16 = xs.getD 16 0) (h17 : x17 = xs.getD 17 0) (hn : n = x16 * 256 + x17) (hk : k = xs.getD 18 0) (l L : Int) (hl : leastK k = l) (hL : limitK true k = L) (hb : ¬ n < 19) (hb2 : ¬ 65535 < n) (hz : l = 0) :
    Calls Try.prog 23 #[.agg #[.bool a, .bool true, .bool c, .bool d, .bool e, .bool f], .slice A m cap] w (RfP 0 0 4 1 3 18 [k] w) := by
  obtain ⟨hml, hmc, hcap⟩ := hr.len
  have hm := hr.2.1
  unfold maxB at hm
  have hm' : m ≤ 140737488351232 := by omega
  have hm63 : (m : Int) ≤ 9223372036854775807 := by omega
  have HML := Lib.hid hml
  have b16 := hr.get (j := 16) (by omega)
  have b17 := hr.get (j := 17) (by omega)
  have b18 := hr.get (j := 18) (by omega)
  rw [← h16] at b16
  rw [← h17] at b17
  rw [← hk] at b18
  have hn0 : 0 ≤ n := by omega
  have hn1 : n ≤ 65535 := by omega
  have hw1 : IntKind.i64.wrap (x16 * 256) = x16 * 256 := by rw [IntKind.wrap_i64]; omega
  have hw2 : x16 * 256 + x17 = n := hn.symm
  have hwn : IntKind.i64.wrap n = n := by rw [IntKind.wrap_i64]; omega
  have hwk : IntKind.i64.wrap k = k := by rw [IntKind.wrap_i64]; omega
  have hwa : IntKind.i64.wrap x16 = x16 := by rw [IntKind.wrap_i64]; omega
  have hwb : IntKind.i64.wrap x17 = x17 := by rw [IntKind.wrap_i64]; omega
  obtain ⟨ga, oa, eA, hga, hcells⟩ : ∃ g o, A = some ⟨g, o, none⟩ ∧ g < w.heap.size ∧ ∀ j, j < xs.length → w.cell? ⟨g, o + j, none⟩ = some (.int .u8 (xs.getD j 0)) := by
    obtain ⟨h1, h2, A', c', e, h3, h4, h5⟩ := hr
    injection e with e1 e2 e3
    subst e1
    exact h5 (by omega)
  subst eA
  have HK : Hid (∀ W, Below w.heap.size w W → ∀ j, j < m → W.cell? ⟨ga, oa + j, none⟩ = some (.int .u8 (xs.getD j 0))) := fun W hb j hj => by
    rw [hb.cell hga, hcells j (by omega)]
  clear hcells
  have HL := Lib.hid hlow
  have HX16 := Lib.hid b16
  have HX17 := Lib.hid b17
  have HX18 := Lib.hid b18
  have HH16 := Lib.hid h16
  have HH17 := Lib.hid h17
  have HHK := Lib.hid hk
  have HLE := Lib.hid (fun w => (show Calls Try.prog 20 #[.int .i64 k] w (RV (.int .i64 l) w) from hl ▸ refleast_any k w))
  have HLI := Lib.hid (fun w => (show Calls Try.prog 18 #[.agg #[.bool a, .bool true, .bool c, .bool d, .bool e, .bool f], .int .i64 k] w (RV (.int .i64 L) w) from hL ▸ reflimit_any a true c d e f k w))
  have m16 : (16 : Int) < m := by omega
  have m17 : (17 : Int) < m := by omega
  have m18 : (18 : Int) < m := by omega
  have m19 : (19 : Int) ≤ m := by omega
  clear hlow b16 b17 b18 h16 h17 hn hk hl hL
  have k0 : (l == 0) = true := by simpa using hz
  clear hz
  clear hm hml hr
  obtain ⟨W0, hW0⟩ : ∃ W0, W0 = rw0 w a true c d e f := ⟨_, rfl⟩
  have HW := Lib.hid hW0
  have HB := Lib.hid (show Below w.heap.size w W0 by rw [hW0]; exact rw0_below w a true c d e f)
  have HS := Lib.hid (show W0.heap.size = w.heap.size + 2 by rw [hW0]; exact rw0_size w a true c d e f)
  have HC := Lib.hid (show RC w.heap.size a true c d e f W0 by rw [hW0]; exact RC.start w a true c d e f)
  clear hW0
  go_enter Try.func23, Try.ntmps23
  go_wp2_with fail
  rw [show (w.alloc (.cells #[.bool a, .bool true, .bool c, .bool d, .bool e, .bool f] 23)).alloc (.cells #[.int .i64 0, .int .i64 0, .int .i64 0, .slice none 0 0, .int .i64 0] 38) = W0 from HW.out.symm]
  go_loop [7] (fun i => ∃ j : Nat, j ≤ 16 ∧ i = .int .i64 j) (fun i => 16 - (intOf i).toNat)
  case atStart => exact ⟨0, by omega, rfl⟩
  case round =>
    obtain ⟨j, hj, rfl⟩ := hrel
    have jm : (j : Int) < m := by omega
    by_cases hlt6 : j < 16
    · have hcx : W0.cell? ⟨ga, oa + j, none⟩ = some (.int .u8 255) := by rw [HK.out W0 HB.out j (by omega), HL.out j hlt6]
      have j16 : (j : Int) < 16 := by omega
      go_wp2_with fail
      go_round
      case rel => exact ⟨j + 1, by omega, by go_num⟩
      case measure => simp [intOf]; omega
    · have j16 : ¬ (j : Int) < 16 := by omega
      obtain ⟨S, hS⟩ : ∃ S, S = fun w' => Below W0.heap.size W0 w' := ⟨_, rfl⟩
      have hSp : ∀ x, S x → Below W0.heap.size W0 x := by rw [hS]; exact fun _ h => h
      have HX := Lib.hid (show ∀ x1 x2, S x1 → Below x1.heap.size x1 x2 → S x2 from by rw [hS]; exact fun x1 x2 h hb => below_then' h hb)
      have HP := Lib.hid (show ∀ p : Wld S, Below W0.heap.size W0 p.w from fun p => hSp _ p.ok)
      have hc : ∀ p : Wld S, RC w.heap.size a true c d e f p.w := fun p => HC.out.below (hSp _ p.ok) (by have := HS.out; omega)
      have HPC := Lib.hid hc
      have c16 : ∀ p : Wld S, p.w.cell? ⟨ga, oa + 16, none⟩ = some (.int .u8 x16) := fun p => by rw [HK.out p.w (below_then' HB.out (hSp _ p.ok)) 16 (by omega), HH16.out]
      have c17 : ∀ p : Wld S, p.w.cell? ⟨ga, oa + 17, none⟩ = some (.int .u8 x17) := fun p => by rw [HK.out p.w (below_then' HB.out (hSp _ p.ok)) 17 (by omega), HH17.out]
      have c18 : ∀ p : Wld S, p.w.cell? ⟨ga, oa + 18, none⟩ = some (.int .u8 k) := fun p => by rw [HK.out p.w (below_then' HB.out (hSp _ p.ok)) 18 (by omega), HHK.out]
      have g0 : ∀ p : Wld S, p.w.cell? ⟨w.heap.size, 0, none⟩ = some (.bool a) := fun p => (hc p).1.1
      have g1 : ∀ p : Wld S, p.w.cell? ⟨w.heap.size, 1, none⟩ = some (.bool true) := fun p => (hc p).1.2.1
      have g2 : ∀ p : Wld S, p.w.cell? ⟨w.heap.size, 2, none⟩ = some (.bool c) := fun p => (hc p).1.2.2.1
      have g3 : ∀ p : Wld S, p.w.cell? ⟨w.heap.size, 3, none⟩ = some (.bool d) := fun p => (hc p).1.2.2.2.1
      have g4 : ∀ p : Wld S, p.w.cell? ⟨w.heap.size, 4, none⟩ = some (.bool e) := fun p => (hc p).1.2.2.2.2.1
      have g5 : ∀ p : Wld S, p.w.cell? ⟨w.heap.size, 5, none⟩ = some (.bool f) := fun p => (hc p).1.2.2.2.2.2
      have HSW := Lib.hid (show S W0.drew by rw [hS]; exact (Below.refl _ _).drew)
      clear hS hSp hc
      go_wp2_with fail
      have hne1 : Nonempty (Wld S) := ⟨⟨_, HSW.out⟩⟩
      refine wp_region_sub S (by kernel_rfl) (by kernel_rfl) (HSW.out) ?_
      repeat (quiet_step (fail))
      refine wpQuiet_nil ?_
      intro _ hw'
      obtain ⟨pq, hw''⟩ := hw'
      subst hw''
      go_wp2_with fail
      refine (HLE.out _).mono ?_
      rintro r w6 ⟨rfl, hb6⟩
      obtain ⟨pr, hpr⟩ : ∃ p : Wld S, p.w = w6 := ⟨⟨w6, HX.out _ _ pq.ok hb6⟩, rfl⟩
      subst hpr
      clear hb6
      have HBY := Lib.hid (show ∀ x ∈ ([k] : List Int), 0 ≤ x ∧ x ≤ 255 from fun x hx => by
        simp at hx
        subst hx; exact HX18.out)
      have HSZ := Lib.hid (show w.heap.size + 2 ≤ pr.w.heap.size by have := (HP.out pr).size; have := HS.out; omega)
      have d16 := c16 pr
      have d17 := c17 pr
      have d18 := c18 pr
      have hgp : ga < pr.w.heap.size := by have := HSZ.out; omega
      go_wp2_with (go_at_call 53; refine (bad_any _ _ _ _ _ _).mono ?_; rintro r w7 ⟨rfl, hb7⟩; have HB7 : Hid (Below pr.w.heap.size pr.w w7) := Lib.hid (by first | exact below_then' (below_alloc (Below.refl _ _).drew _) hb7 | exact below_then' (below_alloc (Below.refl _ _) _) hb7 | exact below_then' (below_alloc (Below.refl _ _) _).drew hb7); have HR7 : Hid (RdB w7 (.slice (some ⟨pr.w.heap.size, 0, none⟩) 1 1) [k]) := Lib.hid (RdB.below (by first | exact RdB.new _ _ rfl #[.int .u8 k] [k] rfl HBY.out (by simp) 1 rfl | exact RdB.drew (RdB.new _ _ rfl #[.int .u8 k] [k] rfl HBY.out (by simp) 1 rfl)) hb7); have HCX := Lib.hid ((HPC.out pr).below HB7.out HSZ.out); clear hb7; obtain ⟨⟨p0, p1, p2, p3, p4, p5⟩, ⟨r0, r1, r2, r3, r4⟩, f1⟩ := HCX.out)
      all_goals go_wp2_with fail
      all_goals refine bodyPost_ret (v := .tuple #[.int .i64 0, .int .i64 0, .agg #[.int .i64 4, .int .i64 1, .int .i64 3, .slice (some ⟨pr.w.heap.size, 0, none⟩) 1 1, .int .i64 18]]) (by simp [results, Try.results23, go_sem, *]) rfl ?_
      all_goals exact rp_end _ _ (below_then' HB.out ((HP.out pr).trans (HB7.out.mono (HP.out pr).size))) HR7.out (fun g o e => by injection e with e; injection e with e1 _; have := HSZ.out; omega)

set_option maxRecDepth 100000 in
set_option maxHeartbeats 4000000 in
theorem ref_l2aT (w : World) (A : Option Addr) (m cap : Nat) (xs : List Int) (hr : RdB w (.slice A m cap) xs) (a c d e f : Bool) (h19 : 19 ≤ m) (hlow : ∀ j, j < 16 → xs.getD j 0 = 255) (n k x16 x17 : Int) (h16 : x16 = xs.getD 16 0) (h17 : x17 = xs.getD 17 0) (hn : n = x16 * 256 + x17) (hk : k = xs.getD 18 0) (l L : Int) (hl : leastK k = l) (hL : limitK true k = L) (hb : ¬ n < 19) (hb2 : ¬ 65535 < n) (hz : ¬ l = 0) (h3 : n < l) :
    Calls Try.prog 23 #[.agg #[.bool a, .bool true, .bool c, .bool d, .bool e, .bool f], .slice A m cap] w (RfP 0 0 4 1 2 16 [x16, x17] w) := by
  obtain ⟨hml, hmc, hcap⟩ := hr.len
  have hm := hr.2.1
  unfold maxB at hm
  have hm' : m ≤ 140737488351232 := by omega
  have hm63 : (m : Int) ≤ 9223372036854775807 := by omega
  have HML := Lib.hid hml
  have b16 := hr.get (j := 16) (by omega)
  have b17 := hr.get (j := 17) (by omega)
  have b18 := hr.get (j := 18) (by omega)
  rw [← h16] at b16
  rw [← h17] at b17
  rw [← hk] at b18
  have hn0 : 0 ≤ n := by omega
  have hn1 : n ≤ 65535 := by omega
  have hw1 : IntKind.i64.wrap (x16 * 256) = x16 * 256 := by rw [IntKind.wrap_i64]; omega
  have hw2 : x16 * 256 + x17 = n := hn.symm
  have hwn : IntKind.i64.wrap n = n := by rw [IntKind.wrap_i64]; omega
  have hwk : IntKind.i64.wrap k = k := by rw [IntKind.wrap_i64]; omega
  have hwa : IntKind.i64.wrap x16 = x16 := by rw [IntKind.wrap_i64]; omega
  have hwb : IntKind.i64.wrap x17 = x17 := by rw [IntKind.wrap_i64]; omega
  obtain ⟨ga, oa, eA, hga, hcells⟩ : ∃ g o, A = some ⟨g, o, none⟩ ∧ g < w.heap.size ∧ ∀ j, j < xs.length → w.cell? ⟨g, o + j, none⟩ = some (.int .u8 (xs.getD j 0)) := by
    obtain ⟨h1, h2, A', c', e, h3, h4, h5⟩ := hr
    injection e with e1 e2 e3
    subst e1
    exact h5 (by omega)
  subst eA
  have HK : Hid (∀ W, Below w.heap.size w W → ∀ j, j < m → W.cell? ⟨ga, oa + j, none⟩ = some (.int .u8 (xs.getD j 0))) := fun W hb j hj => by
    rw [hb.cell hga, hcells j (by omega)]
  clear hcells
  have HL := Lib.hid hlow
  have HX16 := Lib.hid b16
  have HX17 := Lib.hid b17
  have HX18 := Lib.hid b18
  have HH16 := Lib.hid h16
  have HH17 := Lib.hid h17
  have HHK := Lib.hid hk
  have HLE := Lib.hid (fun w => (show Calls Try.prog 20 #[.int .i64 k] w (RV (.int .i64 l) w) from hl ▸ refleast_any k w))
  have HLI := Lib.hid (fun w => (show Calls Try.prog 18 #[.agg #[.bool a, .bool true, .bool c, .bool d, .bool e, .bool f], .int .i64 k] w (RV (.int .i64 L) w) from hL ▸ reflimit_any a true c d e f k w))
  have m16 : (16 : Int) < m := by omega
  have m17 : (17 : Int) < m := by omega
  have m18 : (18 : Int) < m := by omega
  have m19 : (19 : Int) ≤ m := by omega
  clear hlow b16 b17 b18 h16 h17 hn hk hl hL
  have k0 : (l == 0) = false := by simpa using hz
  clear hz
  clear hm hml hr
  obtain ⟨W0, hW0⟩ : ∃ W0, W0 = rw0 w a true c d e f := ⟨_, rfl⟩
  have HW := Lib.hid hW0
  have HB := Lib.hid (show Below w.heap.size w W0 by rw [hW0]; exact rw0_below w a true c d e f)
  have HS := Lib.hid (show W0.heap.size = w.heap.size + 2 by rw [hW0]; exact rw0_size w a true c d e f)
  have HC := Lib.hid (show RC w.heap.size a true c d e f W0 by rw [hW0]; exact RC.start w a true c d e f)
  clear hW0
  go_enter Try.func23, Try.ntmps23
  go_wp2_with fail
  rw [show (w.alloc (.cells #[.bool a, .bool true, .bool c, .bool d, .bool e, .bool f] 23)).alloc (.cells #[.int .i64 0, .int .i64 0, .int .i64 0, .slice none 0 0, .int .i64 0] 38) = W0 from HW.out.symm]
  go_loop [7] (fun i => ∃ j : Nat, j ≤ 16 ∧ i = .int .i64 j) (fun i => 16 - (intOf i).toNat)
  case atStart => exact ⟨0, by omega, rfl⟩
  case round =>
    obtain ⟨j, hj, rfl⟩ := hrel
    have jm : (j : Int) < m := by omega
    by_cases hlt6 : j < 16
    · have hcx : W0.cell? ⟨ga, oa + j, none⟩ = some (.int .u8 255) := by rw [HK.out W0 HB.out j (by omega), HL.out j hlt6]
      have j16 : (j : Int) < 16 := by omega
      go_wp2_with fail
      go_round
      case rel => exact ⟨j + 1, by omega, by go_num⟩
      case measure => simp [intOf]; omega
    · have j16 : ¬ (j : Int) < 16 := by omega
      obtain ⟨S, hS⟩ : ∃ S, S = fun w' => Below W0.heap.size W0 w' := ⟨_, rfl⟩
      have hSp : ∀ x, S x → Below W0.heap.size W0 x := by rw [hS]; exact fun _ h => h
      have HX := Lib.hid (show ∀ x1 x2, S x1 → Below x1.heap.size x1 x2 → S x2 from by rw [hS]; exact fun x1 x2 h hb => below_then' h hb)
      have HP := Lib.hid (show ∀ p : Wld S, Below W0.heap.size W0 p.w from fun p => hSp _ p.ok)
      have hc : ∀ p : Wld S, RC w.heap.size a true c d e f p.w := fun p => HC.out.below (hSp _ p.ok) (by have := HS.out; omega)
      have HPC := Lib.hid hc
      have c16 : ∀ p : Wld S, p.w.cell? ⟨ga, oa + 16, none⟩ = some (.int .u8 x16) := fun p => by rw [HK.out p.w (below_then' HB.out (hSp _ p.ok)) 16 (by omega), HH16.out]
      have c17 : ∀ p : Wld S, p.w.cell? ⟨ga, oa + 17, none⟩ = some (.int .u8 x17) := fun p => by rw [HK.out p.w (below_then' HB.out (hSp _ p.ok)) 17 (by omega), HH17.out]
      have c18 : ∀ p : Wld S, p.w.cell? ⟨ga, oa + 18, none⟩ = some (.int .u8 k) := fun p => by rw [HK.out p.w (below_then' HB.out (hSp _ p.ok)) 18 (by omega), HHK.out]
      have g0 : ∀ p : Wld S, p.w.cell? ⟨w.heap.size, 0, none⟩ = some (.bool a) := fun p => (hc p).1.1
      have g1 : ∀ p : Wld S, p.w.cell? ⟨w.heap.size, 1, none⟩ = some (.bool true) := fun p => (hc p).1.2.1
      have g2 : ∀ p : Wld S, p.w.cell? ⟨w.heap.size, 2, none⟩ = some (.bool c) := fun p => (hc p).1.2.2.1
      have g3 : ∀ p : Wld S, p.w.cell? ⟨w.heap.size, 3, none⟩ = some (.bool d) := fun p => (hc p).1.2.2.2.1
      have g4 : ∀ p : Wld S, p.w.cell? ⟨w.heap.size, 4, none⟩ = some (.bool e) := fun p => (hc p).1.2.2.2.2.1
      have g5 : ∀ p : Wld S, p.w.cell? ⟨w.heap.size, 5, none⟩ = some (.bool f) := fun p => (hc p).1.2.2.2.2.2
      have HSW := Lib.hid (show S W0.drew by rw [hS]; exact (Below.refl _ _).drew)
      clear hS hSp hc
      go_wp2_with fail
      have hne1 : Nonempty (Wld S) := ⟨⟨_, HSW.out⟩⟩
      refine wp_region_sub S (by kernel_rfl) (by kernel_rfl) (HSW.out) ?_
      repeat (quiet_step (fail))
      refine wpQuiet_nil ?_
      intro _ hw'
      obtain ⟨pq, hw''⟩ := hw'
      subst hw''
      go_wp2_with fail
      refine (HLE.out _).mono ?_
      rintro r w6 ⟨rfl, hb6⟩
      obtain ⟨pr, hpr⟩ : ∃ p : Wld S, p.w = w6 := ⟨⟨w6, HX.out _ _ pq.ok hb6⟩, rfl⟩
      subst hpr
      clear hb6
      go_wp2_with fail
      refine (HLE.out _).mono ?_
      rintro r w6 ⟨rfl, hb6⟩
      obtain ⟨ps, hpr⟩ : ∃ p : Wld S, p.w = w6 := ⟨⟨w6, HX.out _ _ pr.ok hb6⟩, rfl⟩
      subst hpr
      clear hb6
      go_wp2_with fail
      have HBY := Lib.hid (show ∀ x ∈ ([x16, x17] : List Int), 0 ≤ x ∧ x ≤ 255 from fun x hx => by
        simp at hx
        rcases hx with rfl | rfl
        · exact HX16.out
        · exact HX17.out)
      have HSZ := Lib.hid (show w.heap.size + 2 ≤ ps.w.heap.size by have := (HP.out ps).size; have := HS.out; omega)
      have d16 := c16 ps
      have d17 := c17 ps
      have d18 := c18 ps
      have hgp : ga < ps.w.heap.size := by have := HSZ.out; omega
      go_region_with (go_at_call 53; refine (bad_any _ _ _ _ _ _).mono ?_; rintro r w7 ⟨rfl, hb7⟩; have HB7 : Hid (Below ps.w.heap.size ps.w w7) := Lib.hid (by first | exact below_then' (below_alloc (Below.refl _ _).drew _) hb7 | exact below_then' (below_alloc (Below.refl _ _) _) hb7 | exact below_then' (below_alloc (Below.refl _ _) _).drew hb7); have HR7 : Hid (RdB w7 (.slice (some ⟨ps.w.heap.size, 0, none⟩) 2 2) [x16, x17]) := Lib.hid (RdB.below (by first | exact RdB.new _ _ rfl #[.int .u8 x16, .int .u8 x17] [x16, x17] rfl HBY.out (by simp) 2 rfl | exact RdB.drew (RdB.new _ _ rfl #[.int .u8 x16, .int .u8 x17] [x16, x17] rfl HBY.out (by simp) 2 rfl)) hb7); have HCX := Lib.hid ((HPC.out ps).below HB7.out HSZ.out); clear hb7; obtain ⟨⟨p0, p1, p2, p3, p4, p5⟩, ⟨r0, r1, r2, r3, r4⟩, f1⟩ := HCX.out)
      all_goals go_wp2_with fail
      all_goals refine bodyPost_ret (v := .tuple #[.int .i64 0, .int .i64 0, .agg #[.int .i64 4, .int .i64 1, .int .i64 2, .slice (some ⟨ps.w.heap.size, 0, none⟩) 2 2, .int .i64 16]]) (by simp [results, Try.results23, go_sem, *]) rfl ?_
      all_goals exact rp_end _ _ (below_then' HB.out ((HP.out ps).trans (HB7.out.mono (HP.out ps).size))) HR7.out (fun g o e => by injection e with e; injection e with e1 _; have := HSZ.out; omega)

set_option maxRecDepth 100000 in
set_option maxHeartbeats 4000000 in
theorem ref_l2bT (w : World) (A : Option Addr) (m cap : Nat) (xs : List Int) (hr : RdB w (.slice A m cap) xs) (a c d e f : Bool) (h19 : 19 ≤ m) (hlow : ∀ j, j < 16 → xs.getD j 0 = 255) (n k x16 x17 : Int) (h16 : x16 = xs.getD 16 0) (h17 : x17 = xs.getD 17 0) (hn : n = x16 * 256 + x17) (hk : k = xs.getD 18 0) (l L : Int) (hl : leastK k = l) (hL : limitK true k = L) (hb : ¬ n < 19) (hb2 : ¬ 65535 < n) (hz : ¬ l = 0) (h3 : ¬ n < l) (h4 : L < n) :
    Calls Try.prog 23 #[.agg #[.bool a, .bool true, .bool c, .bool d, .bool e, .bool f], .slice A m cap] w (RfP 0 0 4 1 2 16 [x16, x17] w) := by
  obtain ⟨hml, hmc, hcap⟩ := hr.len
  have hm := hr.2.1
  unfold maxB at hm
  have hm' : m ≤ 140737488351232 := by omega
  have hm63 : (m : Int) ≤ 9223372036854775807 := by omega
  have HML := Lib.hid hml
  have b16 := hr.get (j := 16) (by omega)
  have b17 := hr.get (j := 17) (by omega)
  have b18 := hr.get (j := 18) (by omega)
  rw [← h16] at b16
  rw [← h17] at b17
  rw [← hk] at b18
  have hn0 : 0 ≤ n := by omega
  have hn1 : n ≤ 65535 := by omega
  have hw1 : IntKind.i64.wrap (x16 * 256) = x16 * 256 := by rw [IntKind.wrap_i64]; omega
  have hw2 : x16 * 256 + x17 = n := hn.symm
  have hwn : IntKind.i64.wrap n = n := by rw [IntKind.wrap_i64]; omega
  have hwk : IntKind.i64.wrap k = k := by rw [IntKind.wrap_i64]; omega
  have hwa : IntKind.i64.wrap x16 = x16 := by rw [IntKind.wrap_i64]; omega
  have hwb : IntKind.i64.wrap x17 = x17 := by rw [IntKind.wrap_i64]; omega
  obtain ⟨ga, oa, eA, hga, hcells⟩ : ∃ g o, A = some ⟨g, o, none⟩ ∧ g < w.heap.size ∧ ∀ j, j < xs.length → w.cell? ⟨g, o + j, none⟩ = some (.int .u8 (xs.getD j 0)) := by
    obtain ⟨h1, h2, A', c', e, h3, h4, h5⟩ := hr
    injection e with e1 e2 e3
    subst e1
    exact h5 (by omega)
  subst eA
  have HK : Hid (∀ W, Below w.heap.size w W → ∀ j, j < m → W.cell? ⟨ga, oa + j, none⟩ = some (.int .u8 (xs.getD j 0))) := fun W hb j hj => by
    rw [hb.cell hga, hcells j (by omega)]
  clear hcells
  have HL := Lib.hid hlow
  have HX16 := Lib.hid b16
  have HX17 := Lib.hid b17
  have HX18 := Lib.hid b18
  have HH16 := Lib.hid h16
  have HH17 := Lib.hid h17
  have HHK := Lib.hid hk
  have HLE := Lib.hid (fun w => (show Calls Try.prog 20 #[.int .i64 k] w (RV (.int .i64 l) w) from hl ▸ refleast_any k w))
  have HLI := Lib.hid (fun w => (show Calls Try.prog 18 #[.agg #[.bool a, .bool true, .bool c, .bool d, .bool e, .bool f], .int .i64 k] w (RV (.int .i64 L) w) from hL ▸ reflimit_any a true c d e f k w))
  have m16 : (16 : Int) < m := by omega
  have m17 : (17 : Int) < m := by omega
  have m18 : (18 : Int) < m := by omega
  have m19 : (19 : Int) ≤ m := by omega
  clear hlow b16 b17 b18 h16 h17 hn hk hl hL
  have k0 : (l == 0) = false := by simpa using hz
  clear hz
  clear hm hml hr
  obtain ⟨W0, hW0⟩ : ∃ W0, W0 = rw0 w a true c d e f := ⟨_, rfl⟩
  have HW := Lib.hid hW0
  have HB := Lib.hid (show Below w.heap.size w W0 by rw [hW0]; exact rw0_below w a true c d e f)
  have HS := Lib.hid (show W0.heap.size = w.heap.size + 2 by rw [hW0]; exact rw0_size w a true c d e f)
  have HC := Lib.hid (show RC w.heap.size a true c d e f W0 by rw [hW0]; exact RC.start w a true c d e f)
  clear hW0
  go_enter Try.func23, Try.ntmps23
  go_wp2_with fail
  rw [show (w.alloc (.cells #[.bool a, .bool true, .bool c, .bool d, .bool e, .bool f] 23)).alloc (.cells #[.int .i64 0, .int .i64 0, .int .i64 0, .slice none 0 0, .int .i64 0] 38) = W0 from HW.out.symm]
  go_loop [7] (fun i => ∃ j : Nat, j ≤ 16 ∧ i = .int .i64 j) (fun i => 16 - (intOf i).toNat)
  case atStart => exact ⟨0, by omega, rfl⟩
  case round =>
    obtain ⟨j, hj, rfl⟩ := hrel
    have jm : (j : Int) < m := by omega
    by_cases hlt6 : j < 16
    · have hcx : W0.cell? ⟨ga, oa + j, none⟩ = some (.int .u8 255) := by rw [HK.out W0 HB.out j (by omega), HL.out j hlt6]
      have j16 : (j : Int) < 16 := by omega
      go_wp2_with fail
      go_round
      case rel => exact ⟨j + 1, by omega, by go_num⟩
      case measure => simp [intOf]; omega
    · have j16 : ¬ (j : Int) < 16 := by omega
      obtain ⟨S, hS⟩ : ∃ S, S = fun w' => Below W0.heap.size W0 w' := ⟨_, rfl⟩
      have hSp : ∀ x, S x → Below W0.heap.size W0 x := by rw [hS]; exact fun _ h => h
      have HX := Lib.hid (show ∀ x1 x2, S x1 → Below x1.heap.size x1 x2 → S x2 from by rw [hS]; exact fun x1 x2 h hb => below_then' h hb)
      have HP := Lib.hid (show ∀ p : Wld S, Below W0.heap.size W0 p.w from fun p => hSp _ p.ok)
      have hc : ∀ p : Wld S, RC w.heap.size a true c d e f p.w := fun p => HC.out.below (hSp _ p.ok) (by have := HS.out; omega)
      have HPC := Lib.hid hc
      have c16 : ∀ p : Wld S, p.w.cell? ⟨ga, oa + 16, none⟩ = some (.int .u8 x16) := fun p => by rw [HK.out p.w (below_then' HB.out (hSp _ p.ok)) 16 (by omega), HH16.out]
      have c17 : ∀ p : Wld S, p.w.cell? ⟨ga, oa + 17, none⟩ = some (.int .u8 x17) := fun p => by rw [HK.out p.w (below_then' HB.out (hSp _ p.ok)) 17 (by omega), HH17.out]
      have c18 : ∀ p : Wld S, p.w.cell? ⟨ga, oa + 18, none⟩ = some (.int .u8 k) := fun p => by rw [HK.out p.w (below_then' HB.out (hSp _ p.ok)) 18 (by omega), HHK.out]
      have g0 : ∀ p : Wld S, p.w.cell? ⟨w.heap.size, 0, none⟩ = some (.bool a) := fun p => (hc p).1.1
      have g1 : ∀ p : Wld S, p.w.cell? ⟨w.heap.size, 1, none⟩ = some (.bool true) := fun p => (hc p).1.2.1
      have g2 : ∀ p : Wld S, p.w.cell? ⟨w.heap.size, 2, none⟩ = some (.bool c) := fun p => (hc p).1.2.2.1
      have g3 : ∀ p : Wld S, p.w.cell? ⟨w.heap.size, 3, none⟩ = some (.bool d) := fun p => (hc p).1.2.2.2.1
      have g4 : ∀ p : Wld S, p.w.cell? ⟨w.heap.size, 4, none⟩ = some (.bool e) := fun p => (hc p).1.2.2.2.2.1
      have g5 : ∀ p : Wld S, p.w.cell? ⟨w.heap.size, 5, none⟩ = some (.bool f) := fun p => (hc p).1.2.2.2.2.2
      have HSW := Lib.hid (show S W0.drew by rw [hS]; exact (Below.refl _ _).drew)
      clear hS hSp hc
      go_wp2_with fail
      have hne1 : Nonempty (Wld S) := ⟨⟨_, HSW.out⟩⟩
      refine wp_region_sub S (by kernel_rfl) (by kernel_rfl) (HSW.out) ?_
      repeat (quiet_step (fail))
      refine wpQuiet_nil ?_
      intro _ hw'
      obtain ⟨pq, hw''⟩ := hw'
      subst hw''
      go_wp2_with fail
      refine (HLE.out _).mono ?_
      rintro r w6 ⟨rfl, hb6⟩
      obtain ⟨pr, hpr⟩ : ∃ p : Wld S, p.w = w6 := ⟨⟨w6, HX.out _ _ pq.ok hb6⟩, rfl⟩
      subst hpr
      clear hb6
      go_wp2_with fail
      refine (HLE.out _).mono ?_
      rintro r w6 ⟨rfl, hb6⟩
      obtain ⟨ps, hpr⟩ : ∃ p : Wld S, p.w = w6 := ⟨⟨w6, HX.out _ _ pr.ok hb6⟩, rfl⟩
      subst hpr
      clear hb6
      go_wp2_with fail
      refine (HLI.out _).mono ?_
      rintro r w6 ⟨rfl, hb6⟩
      obtain ⟨pt, hpr⟩ : ∃ p : Wld S, p.w = w6 := ⟨⟨w6, HX.out _ _ ps.ok hb6⟩, rfl⟩
      subst hpr
      clear hb6
      go_wp2_with fail
      have HBY := Lib.hid (show ∀ x ∈ ([x16, x17] : List Int), 0 ≤ x ∧ x ≤ 255 from fun x hx => by
        simp at hx
        rcases hx with rfl | rfl
        · exact HX16.out
        · exact HX17.out)
      have HSZ := Lib.hid (show w.heap.size + 2 ≤ pt.w.heap.size by have := (HP.out pt).size; have := HS.out; omega)
      have d16 := c16 pt
      have d17 := c17 pt
      have d18 := c18 pt
      have hgp : ga < pt.w.heap.size := by have := HSZ.out; omega
      go_region_with (go_at_call 53; refine (bad_any _ _ _ _ _ _).mono ?_; rintro r w7 ⟨rfl, hb7⟩; have HB7 : Hid (Below pt.w.heap.size pt.w w7) := Lib.hid (by first | exact below_then' (below_alloc (Below.refl _ _).drew _) hb7 | exact below_then' (below_alloc (Below.refl _ _) _) hb7 | exact below_then' (below_alloc (Below.refl _ _) _).drew hb7); have HR7 : Hid (RdB w7 (.slice (some ⟨pt.w.heap.size, 0, none⟩) 2 2) [x16, x17]) := Lib.hid (RdB.below (by first | exact RdB.new _ _ rfl #[.int .u8 x16, .int .u8 x17] [x16, x17] rfl HBY.out (by simp) 2 rfl | exact RdB.drew (RdB.new _ _ rfl #[.int .u8 x16, .int .u8 x17] [x16, x17] rfl HBY.out (by simp) 2 rfl)) hb7); have HCX := Lib.hid ((HPC.out pt).below HB7.out HSZ.out); clear hb7; obtain ⟨⟨p0, p1, p2, p3, p4, p5⟩, ⟨r0, r1, r2, r3, r4⟩, f1⟩ := HCX.out)
      all_goals go_wp2_with fail
      all_goals refine bodyPost_ret (v := .tuple #[.int .i64 0, .int .i64 0, .agg #[.int .i64 4, .int .i64 1, .int .i64 2, .slice (some ⟨pt.w.heap.size, 0, none⟩) 2 2, .int .i64 16]]) (by simp [results, Try.results23, go_sem, *]) rfl ?_
      all_goals exact rp_end _ _ (below_then' HB.out ((HP.out pt).trans (HB7.out.mono (HP.out pt).size))) HR7.out (fun g o e => by injection e with e; injection e with e1 _; have := HSZ.out; omega)

set_option maxRecDepth 100000 in
set_option maxHeartbeats 4000000 in
theorem ref_okT (w : World) (A : Option Addr) (m cap : Nat) (xs : List Int) (hr : RdB w (.slice A m cap) xs) (a c d e f : Bool) (h19 : 19 ≤ m) (hlow : ∀ j, j < 16 → xs.getD j 0 = 255) (n k x16 x17 : Int) (h16 : x16 = xs.getD 16 0) (h17 : x17 = xs.getD 17 0) (hn : n = x16 * 256 + x17) (hk : k = xs.getD 18 0) (l L : Int) (hl : leastK k = l) (hL : limitK true k = L) (hb : ¬ n < 19) (hb2 : ¬ 65535 < n) (hz : ¬ l = 0) (h3 : ¬ n < l) (h4 : ¬ L < n) :
    Calls Try.prog 23 #[.agg #[.bool a, .bool true, .bool c, .bool d, .bool e, .bool f], .slice A m cap] w (RfP n k 0 0 0 0 [] w) := by
  obtain ⟨hml, hmc, hcap⟩ := hr.len
  have hm := hr.2.1
  unfold maxB at hm
  have hm' : m ≤ 140737488351232 := by omega
  have hm63 : (m : Int) ≤ 9223372036854775807 := by omega
  have HML := Lib.hid hml
  have b16 := hr.get (j := 16) (by omega)
  have b17 := hr.get (j := 17) (by omega)
  have b18 := hr.get (j := 18) (by omega)
  rw [← h16] at b16
  rw [← h17] at b17
  rw [← hk] at b18
  have hn0 : 0 ≤ n := by omega
  have hn1 : n ≤ 65535 := by omega
  have hw1 : IntKind.i64.wrap (x16 * 256) = x16 * 256 := by rw [IntKind.wrap_i64]; omega
  have hw2 : x16 * 256 + x17 = n := hn.symm
  have hwn : IntKind.i64.wrap n = n := by rw [IntKind.wrap_i64]; omega
  have hwk : IntKind.i64.wrap k = k := by rw [IntKind.wrap_i64]; omega
  have hwa : IntKind.i64.wrap x16 = x16 := by rw [IntKind.wrap_i64]; omega
  have hwb : IntKind.i64.wrap x17 = x17 := by rw [IntKind.wrap_i64]; omega
  obtain ⟨ga, oa, eA, hga, hcells⟩ : ∃ g o, A = some ⟨g, o, none⟩ ∧ g < w.heap.size ∧ ∀ j, j < xs.length → w.cell? ⟨g, o + j, none⟩ = some (.int .u8 (xs.getD j 0)) := by
    obtain ⟨h1, h2, A', c', e, h3, h4, h5⟩ := hr
    injection e with e1 e2 e3
    subst e1
    exact h5 (by omega)
  subst eA
  have HK : Hid (∀ W, Below w.heap.size w W → ∀ j, j < m → W.cell? ⟨ga, oa + j, none⟩ = some (.int .u8 (xs.getD j 0))) := fun W hb j hj => by
    rw [hb.cell hga, hcells j (by omega)]
  clear hcells
  have HL := Lib.hid hlow
  have HX16 := Lib.hid b16
  have HX17 := Lib.hid b17
  have HX18 := Lib.hid b18
  have HH16 := Lib.hid h16
  have HH17 := Lib.hid h17
  have HHK := Lib.hid hk
  have HLE := Lib.hid (fun w => (show Calls Try.prog 20 #[.int .i64 k] w (RV (.int .i64 l) w) from hl ▸ refleast_any k w))
  have HLI := Lib.hid (fun w => (show Calls Try.prog 18 #[.agg #[.bool a, .bool true, .bool c, .bool d, .bool e, .bool f], .int .i64 k] w (RV (.int .i64 L) w) from hL ▸ reflimit_any a true c d e f k w))
  have m16 : (16 : Int) < m := by omega
  have m17 : (17 : Int) < m := by omega
  have m18 : (18 : Int) < m := by omega
  have m19 : (19 : Int) ≤ m := by omega
  clear hlow b16 b17 b18 h16 h17 hn hk hl hL
  have k0 : (l == 0) = false := by simpa using hz
  clear hz
  clear hm hml hr
  obtain ⟨W0, hW0⟩ : ∃ W0, W0 = rw0 w a true c d e f := ⟨_, rfl⟩
  have HW := Lib.hid hW0
  have HB := Lib.hid (show Below w.heap.size w W0 by rw [hW0]; exact rw0_below w a true c d e f)
  have HS := Lib.hid (show W0.heap.size = w.heap.size + 2 by rw [hW0]; exact rw0_size w a true c d e f)
  have HC := Lib.hid (show RC w.heap.size a true c d e f W0 by rw [hW0]; exact RC.start w a true c d e f)
  clear hW0
  go_enter Try.func23, Try.ntmps23
  go_wp2_with fail
  rw [show (w.alloc (.cells #[.bool a, .bool true, .bool c, .bool d, .bool e, .bool f] 23)).alloc (.cells #[.int .i64 0, .int .i64 0, .int .i64 0, .slice none 0 0, .int .i64 0] 38) = W0 from HW.out.symm]
  go_loop [7] (fun i => ∃ j : Nat, j ≤ 16 ∧ i = .int .i64 j) (fun i => 16 - (intOf i).toNat)
  case atStart => exact ⟨0, by omega, rfl⟩
  case round =>
    obtain ⟨j, hj, rfl⟩ := hrel
    have jm : (j : Int) < m := by omega
    by_cases hlt6 : j < 16
    · have hcx : W0.cell? ⟨ga, oa + j, none⟩ = some (.int .u8 255) := by rw [HK.out W0 HB.out j (by omega), HL.out j hlt6]
      have j16 : (j : Int) < 16 := by omega
      go_wp2_with fail
      go_round
      case rel => exact ⟨j + 1, by omega, by go_num⟩
      case measure => simp [intOf]; omega
    · have j16 : ¬ (j : Int) < 16 := by omega
      obtain ⟨S, hS⟩ : ∃ S, S = fun w' => Below W0.heap.size W0 w' := ⟨_, rfl⟩
      have hSp : ∀ x, S x → Below W0.heap.size W0 x := by rw [hS]; exact fun _ h => h
      have HX := Lib.hid (show ∀ x1 x2, S x1 → Below x1.heap.size x1 x2 → S x2 from by rw [hS]; exact fun x1 x2 h hb => below_then' h hb)
      have HP := Lib.hid (show ∀ p : Wld S, Below W0.heap.size W0 p.w from fun p => hSp _ p.ok)
      have hc : ∀ p : Wld S, RC w.heap.size a true c d e f p.w := fun p => HC.out.below (hSp _ p.ok) (by have := HS.out; omega)
      have HPC := Lib.hid hc
      have c16 : ∀ p : Wld S, p.w.cell? ⟨ga, oa + 16, none⟩ = some (.int .u8 x16) := fun p => by rw [HK.out p.w (below_then' HB.out (hSp _ p.ok)) 16 (by omega), HH16.out]
      have c17 : ∀ p : Wld S, p.w.cell? ⟨ga, oa + 17, none⟩ = some (.int .u8 x17) := fun p => by rw [HK.out p.w (below_then' HB.out (hSp _ p.ok)) 17 (by omega), HH17.out]
      have c18 : ∀ p : Wld S, p.w.cell? ⟨ga, oa + 18, none⟩ = some (.int .u8 k) := fun p => by rw [HK.out p.w (below_then' HB.out (hSp _ p.ok)) 18 (by omega), HHK.out]
      have g0 : ∀ p : Wld S, p.w.cell? ⟨w.heap.size, 0, none⟩ = some (.bool a) := fun p => (hc p).1.1
      have g1 : ∀ p : Wld S, p.w.cell? ⟨w.heap.size, 1, none⟩ = some (.bool true) := fun p => (hc p).1.2.1
      have g2 : ∀ p : Wld S, p.w.cell? ⟨w.heap.size, 2, none⟩ = some (.bool c) := fun p => (hc p).1.2.2.1
      have g3 : ∀ p : Wld S, p.w.cell? ⟨w.heap.size, 3, none⟩ = some (.bool d) := fun p => (hc p).1.2.2.2.1
      have g4 : ∀ p : Wld S, p.w.cell? ⟨w.heap.size, 4, none⟩ = some (.bool e) := fun p => (hc p).1.2.2.2.2.1
      have g5 : ∀ p : Wld S, p.w.cell? ⟨w.heap.size, 5, none⟩ = some (.bool f) := fun p => (hc p).1.2.2.2.2.2
      have HSW := Lib.hid (show S W0.drew by rw [hS]; exact (Below.refl _ _).drew)
      clear hS hSp hc
      go_wp2_with fail
      have hne1 : Nonempty (Wld S) := ⟨⟨_, HSW.out⟩⟩
      refine wp_region_sub S (by kernel_rfl) (by kernel_rfl) (HSW.out) ?_
      repeat (quiet_step (fail))
      refine wpQuiet_nil ?_
      intro _ hw'
      obtain ⟨pq, hw''⟩ := hw'
      subst hw''
      go_wp2_with fail
      refine (HLE.out _).mono ?_
      rintro r w6 ⟨rfl, hb6⟩
      obtain ⟨pr, hpr⟩ : ∃ p : Wld S, p.w = w6 := ⟨⟨w6, HX.out _ _ pq.ok hb6⟩, rfl⟩
      subst hpr
      clear hb6
      go_wp2_with fail
      refine (HLE.out _).mono ?_
      rintro r w6 ⟨rfl, hb6⟩
      obtain ⟨ps, hpr⟩ : ∃ p : Wld S, p.w = w6 := ⟨⟨w6, HX.out _ _ pr.ok hb6⟩, rfl⟩
      subst hpr
      clear hb6
      go_wp2_with fail
      refine (HLI.out _).mono ?_
      rintro r w6 ⟨rfl, hb6⟩
      obtain ⟨pt, hpr⟩ : ∃ p : Wld S, p.w = w6 := ⟨⟨w6, HX.out _ _ ps.ok hb6⟩, rfl⟩
      subst hpr
      clear hb6
      obtain ⟨⟨p0, p1, p2, p3, p4, p5⟩, ⟨r0, r1, r2, r3, r4⟩, f1⟩ := HPC.out pt
      go_wp2_with fail
      refine bodyPost_ret (v := .tuple #[.int .i64 n, .int .i64 k, .agg #[.int .i64 0, .int .i64 0, .int .i64 0, .slice none 0 0, .int .i64 0]]) (by simp [results, Try.results23, go_sem, *]) rfl ?_
      exact rp_end none 0 (below_then' HB.out (HP.out pt)) (RdB.nil _ none 0 ⟨by omega, fun _ => rfl⟩) (fun _ _ e => nomatch e)

set_option maxRecDepth 100000 in
set_option maxHeartbeats 4000000 in
theorem ref_l1aF (w : World) (A : Option Addr) (m cap : Nat) (xs : List Int) (hr : RdB w (.slice A m cap) xs) (a c d e f : Bool) (h19 : 19 ≤ m) (hlow : ∀ j, j < 16 → xs.getD j 0 = 255) (n k x16 x17 : Int) (h16 : x16 = xs.getD 16 0) (h17 : x17 = xs.getD 17 0) (hn : n = x16 * 256 + x17) (hk : k = xs.getD 18 0) (l L : Int) (hl : leastK k = l) (hL : limitK false k = L) (hb : n < 19) :
    Calls Try.prog 23 #[.agg #[.bool a, .bool false, .bool c, .bool d, .bool e, .bool f], .slice A m cap] w (RfP 0 0 4 1 2 16 [x16, x17] w) := by
  obtain ⟨hml, hmc, hcap⟩ := hr.len
  have hm := hr.2.1
  unfold maxB at hm
  have hm' : m ≤ 140737488351232 := by omega
  have hm63 : (m : Int) ≤ 9223372036854775807 := by omega
  have HML := Lib.hid hml
  have b16 := hr.get (j := 16) (by omega)
  have b17 := hr.get (j := 17) (by omega)
  have b18 := hr.get (j := 18) (by omega)
  rw [← h16] at b16
  rw [← h17] at b17
  rw [← hk] at b18
  have hn0 : 0 ≤ n := by omega
  have hn1 : n ≤ 65535 := by omega
  have hw1 : IntKind.i64.wrap (x16 * 256) = x16 * 256 := by rw [IntKind.wrap_i64]; omega
  have hw2 : x16 * 256 + x17 = n := hn.symm
  have hwn : IntKind.i64.wrap n = n := by rw [IntKind.wrap_i64]; omega
  have hwk : IntKind.i64.wrap k = k := by rw [IntKind.wrap_i64]; omega
  have hwa : IntKind.i64.wrap x16 = x16 := by rw [IntKind.wrap_i64]; omega
  have hwb : IntKind.i64.wrap x17 = x17 := by rw [IntKind.wrap_i64]; omega
  obtain ⟨ga, oa, eA, hga, hcells⟩ : ∃ g o, A = some ⟨g, o, none⟩ ∧ g < w.heap.size ∧ ∀ j, j < xs.length → w.cell? ⟨g, o + j, none⟩ = some (.int .u8 (xs.getD j 0)) := by
    obtain ⟨h1, h2, A', c', e, h3, h4, h5⟩ := hr
    injection e with e1 e2 e3
    subst e1
    exact h5 (by omega)
  subst eA
  have HK : Hid (∀ W, Below w.heap.size w W → ∀ j, j < m → W.cell? ⟨ga, oa + j, none⟩ = some (.int .u8 (xs.getD j 0))) := fun W hb j hj => by
    rw [hb.cell hga, hcells j (by omega)]
  clear hcells
  have HL := Lib.hid hlow
  have HX16 := Lib.hid b16
  have HX17 := Lib.hid b17
  have HX18 := Lib.hid b18
  have HH16 := Lib.hid h16
  have HH17 := Lib.hid h17
  have HHK := Lib.hid hk
  have HLE := Lib.hid (fun w => (show Calls Try.prog 20 #[.int .i64 k] w (RV (.int .i64 l) w) from hl ▸ refleast_any k w))
  have HLI := Lib.hid (fun w => (show Calls Try.prog 18 #[.agg #[.bool a, .bool false, .bool c, .bool d, .bool e, .bool f], .int .i64 k] w (RV (.int .i64 L) w) from hL ▸ reflimit_any a false c d e f k w))
  have m16 : (16 : Int) < m := by omega
  have m17 : (17 : Int) < m := by omega
  have m18 : (18 : Int) < m := by omega
  have m19 : (19 : Int) ≤ m := by omega
  clear hlow b16 b17 b18 h16 h17 hn hk hl hL
  clear hm hml hr
  obtain ⟨W0, hW0⟩ : ∃ W0, W0 = rw0 w a false c d e f := ⟨_, rfl⟩
  have HW := Lib.hid hW0
  have HB := Lib.hid (show Below w.heap.size w W0 by rw [hW0]; exact rw0_below w a false c d e f)
  have HS := Lib.hid (show W0.heap.size = w.heap.size + 2 by rw [hW0]; exact rw0_size w a false c d e f)
  have HC := Lib.hid (show RC w.heap.size a false c d e f W0 by rw [hW0]; exact RC.start w a false c d e f)
  clear hW0
  go_enter Try.func23, Try.ntmps23
  go_wp2_with fail
  rw [show (w.alloc (.cells #[.bool a, .bool false, .bool c, .bool d, .bool e, .bool f] 23)).alloc (.cells #[.int .i64 0, .int .i64 0, .int .i64 0, .slice none 0 0, .int .i64 0] 38) = W0 from HW.out.symm]
  go_loop [7] (fun i => ∃ j : Nat, j ≤ 16 ∧ i = .int .i64 j) (fun i => 16 - (intOf i).toNat)
  case atStart => exact ⟨0, by omega, rfl⟩
  case round =>
    obtain ⟨j, hj, rfl⟩ := hrel
    have jm : (j : Int) < m := by omega
    by_cases hlt6 : j < 16
    · have hcx : W0.cell? ⟨ga, oa + j, none⟩ = some (.int .u8 255) := by rw [HK.out W0 HB.out j (by omega), HL.out j hlt6]
      have j16 : (j : Int) < 16 := by omega
      go_wp2_with fail
      go_round
      case rel => exact ⟨j + 1, by omega, by go_num⟩
      case measure => simp [intOf]; omega
    · have j16 : ¬ (j : Int) < 16 := by omega
      obtain ⟨S, hS⟩ : ∃ S, S = fun w' => Below W0.heap.size W0 w' := ⟨_, rfl⟩
      have hSp : ∀ x, S x → Below W0.heap.size W0 x := by rw [hS]; exact fun _ h => h
      have HX := Lib.hid (show ∀ x1 x2, S x1 → Below x1.heap.size x1 x2 → S x2 from by rw [hS]; exact fun x1 x2 h hb => below_then' h hb)
      have HP := Lib.hid (show ∀ p : Wld S, Below W0.heap.size W0 p.w from fun p => hSp _ p.ok)
      have hc : ∀ p : Wld S, RC w.heap.size a false c d e f p.w := fun p => HC.out.below (hSp _ p.ok) (by have := HS.out; omega)
      have HPC := Lib.hid hc
      have c16 : ∀ p : Wld S, p.w.cell? ⟨ga, oa + 16, none⟩ = some (.int .u8 x16) := fun p => by rw [HK.out p.w (below_then' HB.out (hSp _ p.ok)) 16 (by omega), HH16.out]
      have c17 : ∀ p : Wld S, p.w.cell? ⟨ga, oa + 17, none⟩ = some (.int .u8 x17) := fun p => by rw [HK.out p.w (below_then' HB.out (hSp _ p.ok)) 17 (by omega), HH17.out]
      have c18 : ∀ p : Wld S, p.w.cell? ⟨ga, oa + 18, none⟩ = some (.int .u8 k) := fun p => by rw [HK.out p.w (below_then' HB.out (hSp _ p.ok)) 18 (by omega), HHK.out]
      have g0 : ∀ p : Wld S, p.w.cell? ⟨w.heap.size, 0, none⟩ = some (.bool a) := fun p => (hc p).1.1
      have g1 : ∀ p : Wld S, p.w.cell? ⟨w.heap.size, 1, none⟩ = some (.bool false) := fun p => (hc p).1.2.1
      have g2 : ∀ p : Wld S, p.w.cell? ⟨w.heap.size, 2, none⟩ = some (.bool c) := fun p => (hc p).1.2.2.1
      have g3 : ∀ p : Wld S, p.w.cell? ⟨w.heap.size, 3, none⟩ = some (.bool d) := fun p => (hc p).1.2.2.2.1
      have g4 : ∀ p : Wld S, p.w.cell? ⟨w.heap.size, 4, none⟩ = some (.bool e) := fun p => (hc p).1.2.2.2.2.1
      have g5 : ∀ p : Wld S, p.w.cell? ⟨w.heap.size, 5, none⟩ = some (.bool f) := fun p => (hc p).1.2.2.2.2.2
      have HSW := Lib.hid (show S W0.drew by rw [hS]; exact (Below.refl _ _).drew)
      clear hS hSp hc
      go_wp2_with fail
      have hne1 : Nonempty (Wld S) := ⟨⟨_, HSW.out⟩⟩
      refine wp_region_sub S (by kernel_rfl) (by kernel_rfl) (HSW.out) ?_
      repeat (quiet_step (fail))
      refine wpQuiet_nil ?_
      intro _ hw'
      obtain ⟨pq, hw''⟩ := hw'
      subst hw''
      go_wp2_with fail
      have HBY := Lib.hid (show ∀ x ∈ ([x16, x17] : List Int), 0 ≤ x ∧ x ≤ 255 from fun x hx => by
        simp at hx
        rcases hx with rfl | rfl
        · exact HX16.out
        · exact HX17.out)
      have HSZ := Lib.hid (show w.heap.size + 2 ≤ pq.w.heap.size by have := (HP.out pq).size; have := HS.out; omega)
      have d16 := c16 pq
      have d17 := c17 pq
      have d18 := c18 pq
      have hgp : ga < pq.w.heap.size := by have := HSZ.out; omega
      go_region_with (go_at_call 53; refine (bad_any _ _ _ _ _ _).mono ?_; rintro r w7 ⟨rfl, hb7⟩; have HB7 : Hid (Below pq.w.heap.size pq.w w7) := Lib.hid (by first | exact below_then' (below_alloc (Below.refl _ _).drew _) hb7 | exact below_then' (below_alloc (Below.refl _ _) _) hb7 | exact below_then' (below_alloc (Below.refl _ _) _).drew hb7); have HR7 : Hid (RdB w7 (.slice (some ⟨pq.w.heap.size, 0, none⟩) 2 2) [x16, x17]) := Lib.hid (RdB.below (by first | exact RdB.new _ _ rfl #[.int .u8 x16, .int .u8 x17] [x16, x17] rfl HBY.out (by simp) 2 rfl | exact RdB.drew (RdB.new _ _ rfl #[.int .u8 x16, .int .u8 x17] [x16, x17] rfl HBY.out (by simp) 2 rfl)) hb7); have HCX := Lib.hid ((HPC.out pq).below HB7.out HSZ.out); clear hb7; obtain ⟨⟨p0, p1, p2, p3, p4, p5⟩, ⟨r0, r1, r2, r3, r4⟩, f1⟩ := HCX.out)
      all_goals go_wp2_with fail
      all_goals refine bodyPost_ret (v := .tuple #[.int .i64 0, .int .i64 0, .agg #[.int .i64 4, .int .i64 1, .int .i64 2, .slice (some ⟨pq.w.heap.size, 0, none⟩) 2 2, .int .i64 16]]) (by simp [results, Try.results23, go_sem, *]) rfl ?_
      all_goals exact rp_end _ _ (below_then' HB.out ((HP.out pq).trans (HB7.out.mono (HP.out pq).size))) HR7.out (fun g o e => by injection e with e; injection e with e1 _; have := HSZ.out; omega)

set_option maxRecDepth 100000 in
set_option maxHeartbeats 4000000 in
theorem ref_l1bF (w : World) (A : Option Addr) (m cap : Nat) (xs : List Int) (hr : RdB w (.slice A m cap) xs) (a c d e f : Bool) (h19 : 19 ≤ m) (hlow : ∀ j, j < 16 → xs.getD j 0 = 255) (n k x16 x17 : Int) (h16 : x16 = xs.getD 16 0) (h17 : x17 = xs.getD 17 0) (hn : n = x16 * 256 + x17) (hk : k = xs.getD 18 0) (l L : Int) (hl : leastK k = l) (hL : limitK false k = L) (hb : ¬ n < 19) (hb2 : 4096 < n) :
    Calls Try.prog 23 #[.agg #[.bool a, .bool false, .bool c, .bool d, .bool e, .bool f], .slice A m cap] w (RfP 0 0 4 1 2 16 [x16, x17] w) := by
  obtain ⟨hml, hmc, hcap⟩ := hr.len
  have hm := hr.2.1
  unfold maxB at hm
  have hm' : m ≤ 140737488351232 := by omega
  have hm63 : (m : Int) ≤ 9223372036854775807 := by omega
  have HML := Lib.hid hml
  have b16 := hr.get (j := 16) (by omega)
  have b17 := hr.get (j := 17) (by omega)
  have b18 := hr.get (j := 18) (by omega)
  rw [← h16] at b16
  rw [← h17] at b17
  rw [← hk] at b18
  have hn0 : 0 ≤ n := by omega
  have hn1 : n ≤ 65535 := by omega
  have hw1 : IntKind.i64.wrap (x16 * 256) = x16 * 256 := by rw [IntKind.wrap_i64]; omega
  have hw2 : x16 * 256 + x17 = n := hn.symm
  have hwn : IntKind.i64.wrap n = n := by rw [IntKind.wrap_i64]; omega
  have hwk : IntKind.i64.wrap k = k := by rw [IntKind.wrap_i64]; omega
  have hwa : IntKind.i64.wrap x16 = x16 := by rw [IntKind.wrap_i64]; omega
  have hwb : IntKind.i64.wrap x17 = x17 := by rw [IntKind.wrap_i64]; omega
  obtain ⟨ga, oa, eA, hga, hcells⟩ : ∃ g o, A = some ⟨g, o, none⟩ ∧ g < w.heap.size ∧ ∀ j, j < xs.length → w.cell? ⟨g, o + j, none⟩ = some (.int .u8 (xs.getD j 0)) := by
    obtain ⟨h1, h2, A', c', e, h3, h4, h5⟩ := hr
    injection e with e1 e2 e3
    subst e1
    exact h5 (by omega)
  subst eA
  have HK : Hid (∀ W, Below w.heap.size w W → ∀ j, j < m → W.cell? ⟨ga, oa + j, none⟩ = some (.int .u8 (xs.getD j 0))) := fun W hb j hj => by
    rw [hb.cell hga, hcells j (by omega)]
  clear hcells
  have HL := Lib.hid hlow
  have HX16 := Lib.hid b16
  have HX17 := Lib.hid b17
  have HX18 := Lib.hid b18
  have HH16 := Lib.hid h16
  have HH17 := Lib.hid h17
  have HHK := Lib.hid hk
  have HLE := Lib.hid (fun w => (show Calls Try.prog 20 #[.int .i64 k] w (RV (.int .i64 l) w) from hl ▸ refleast_any k w))
  have HLI := Lib.hid (fun w => (show Calls Try.prog 18 #[.agg #[.bool a, .bool false, .bool c, .bool d, .bool e, .bool f], .int .i64 k] w (RV (.int .i64 L) w) from hL ▸ reflimit_any a false c d e f k w))
  have m16 : (16 : Int) < m := by omega
  have m17 : (17 : Int) < m := by omega
  have m18 : (18 : Int) < m := by omega
  have m19 : (19 : Int) ≤ m := by omega
  clear hlow b16 b17 b18 h16 h17 hn hk hl hL
  clear hm hml hr
  obtain ⟨W0, hW0⟩ : ∃ W0, W0 = rw0 w a false c d e f := ⟨_, rfl⟩
  have HW := Lib.hid hW0
  have HB := Lib.hid (show Below w.heap.size w W0 by rw [hW0]; exact rw0_below w a false c d e f)
  have HS := Lib.hid (show W0.heap.size = w.heap.size + 2 by rw [hW0]; exact rw0_size w a false c d e f)
  have HC := Lib.hid (show RC w.heap.size a false c d e f W0 by rw [hW0]; exact RC.start w a false c d e f)
  clear hW0
  go_enter Try.func23, Try.ntmps23
  go_wp2_with fail
  rw [show (w.alloc (.cells #[.bool a, .bool false, .bool c, .bool d, .bool e, .bool f] 23)).alloc (.cells #[.int .i64 0, .int .i64 0, .int .i64 0, .slice none 0 0, .int .i64 0] 38) = W0 from HW.out.symm]
  go_loop [7] (fun i => ∃ j : Nat, j ≤ 16 ∧ i = .int .i64 j) (fun i => 16 - (intOf i).toNat)
  case atStart => exact ⟨0, by omega, rfl⟩
  case round =>
    obtain ⟨j, hj, rfl⟩ := hrel
    have jm : (j : Int) < m := by omega
    by_cases hlt6 : j < 16
    · have hcx : W0.cell? ⟨ga, oa + j, none⟩ = some (.int .u8 255) := by rw [HK.out W0 HB.out j (by omega), HL.out j hlt6]
      have j16 : (j : Int) < 16 := by omega
      go_wp2_with fail
      go_round
      case rel => exact ⟨j + 1, by omega, by go_num⟩
      case measure => simp [intOf]; omega
    · have j16 : ¬ (j : Int) < 16 := by omega
      obtain ⟨S, hS⟩ : ∃ S, S = fun w' => Below W0.heap.size W0 w' := ⟨_, rfl⟩
      have hSp : ∀ x, S x → Below W0.heap.size W0 x := by rw [hS]; exact fun _ h => h
      have HX := Lib.hid (show ∀ x1 x2, S x1 → Below x1.heap.size x1 x2 → S x2 from by rw [hS]; exact fun x1 x2 h hb => below_then' h hb)
      have HP := Lib.hid (show ∀ p : Wld S, Below W0.heap.size W0 p.w from fun p => hSp _ p.ok)
      have hc : ∀ p : Wld S, RC w.heap.size a false c d e f p.w := fun p => HC.out.below (hSp _ p.ok) (by have := HS.out; omega)
      have HPC := Lib.hid hc
      have c16 : ∀ p : Wld S, p.w.cell? ⟨ga, oa + 16, none⟩ = some (.int .u8 x16) := fun p => by rw [HK.out p.w (below_then' HB.out (hSp _ p.ok)) 16 (by omega), HH16.out]
      have c17 : ∀ p : Wld S, p.w.cell? ⟨ga, oa + 17, none⟩ = some (.int .u8 x17) := fun p => by rw [HK.out p.w (below_then' HB.out (hSp _ p.ok)) 17 (by omega), HH17.out]
      have c18 : ∀ p : Wld S, p.w.cell? ⟨ga, oa + 18, none⟩ = some (.int .u8 k) := fun p => by rw [HK.out p.w (below_then' HB.out (hSp _ p.ok)) 18 (by omega), HHK.out]
      have g0 : ∀ p : Wld S, p.w.cell? ⟨w.heap.size, 0, none⟩ = some (.bool a) := fun p => (hc p).1.1
      have g1 : ∀ p : Wld S, p.w.cell? ⟨w.heap.size, 1, none⟩ = some (.bool false) := fun p => (hc p).1.2.1
      have g2 : ∀ p : Wld S, p.w.cell? ⟨w.heap.size, 2, none⟩ = some (.bool c) := fun p => (hc p).1.2.2.1
      have g3 : ∀ p : Wld S, p.w.cell? ⟨w.heap.size, 3, none⟩ = some (.bool d) := fun p => (hc p).1.2.2.2.1
      have g4 : ∀ p : Wld S, p.w.cell? ⟨w.heap.size, 4, none⟩ = some (.bool e) := fun p => (hc p).1.2.2.2.2.1
      have g5 : ∀ p : Wld S, p.w.cell? ⟨w.heap.size, 5, none⟩ = some (.bool f) := fun p => (hc p).1.2.2.2.2.2
      have HSW := Lib.hid (show S W0.drew by rw [hS]; exact (Below.refl _ _).drew)
      clear hS hSp hc
      go_wp2_with fail
      have hne1 : Nonempty (Wld S) := ⟨⟨_, HSW.out⟩⟩
      refine wp_region_sub S (by kernel_rfl) (by kernel_rfl) (HSW.out) ?_
      repeat (quiet_step (fail))
      refine wpQuiet_nil ?_
      intro _ hw'
      obtain ⟨pq, hw''⟩ := hw'
      subst hw''
      go_wp2_with fail
      have HBY := Lib.hid (show ∀ x ∈ ([x16, x17] : List Int), 0 ≤ x ∧ x ≤ 255 from fun x hx => by
        simp at hx
        rcases hx with rfl | rfl
        · exact HX16.out
        · exact HX17.out)
      have HSZ := Lib.hid (show w.heap.size + 2 ≤ pq.w.heap.size by have := (HP.out pq).size; have := HS.out; omega)
      have d16 := c16 pq
      have d17 := c17 pq
      have d18 := c18 pq
      have hgp : ga < pq.w.heap.size := by have := HSZ.out; omega
      go_region_with (go_at_call 53; refine (bad_any _ _ _ _ _ _).mono ?_; rintro r w7 ⟨rfl, hb7⟩; have HB7 : Hid (Below pq.w.heap.size pq.w w7) := Lib.hid (by first | exact below_then' (below_alloc (Below.refl _ _).drew _) hb7 | exact below_then' (below_alloc (Below.refl _ _) _) hb7 | exact below_then' (below_alloc (Below.refl _ _) _).drew hb7); have HR7 : Hid (RdB w7 (.slice (some ⟨pq.w.heap.size, 0, none⟩) 2 2) [x16, x17]) := Lib.hid (RdB.below (by first | exact RdB.new _ _ rfl #[.int .u8 x16, .int .u8 x17] [x16, x17] rfl HBY.out (by simp) 2 rfl | exact RdB.drew (RdB.new _ _ rfl #[.int .u8 x16, .int .u8 x17] [x16, x17] rfl HBY.out (by simp) 2 rfl)) hb7); have HCX := Lib.hid ((HPC.out pq).below HB7.out HSZ.out); clear hb7; obtain ⟨⟨p0, p1, p2, p3, p4, p5⟩, ⟨r0, r1, r2, r3, r4⟩, f1⟩ := HCX.out)
      all_goals go_wp2_with fail
      all_goals refine bodyPost_ret (v := .tuple #[.int .i64 0, .int .i64 0, .agg #[.int .i64 4, .int .i64 1, .int .i64 2, .slice (some ⟨pq.w.heap.size, 0, none⟩) 2 2, .int .i64 16]]) (by simp [results, Try.results23, go_sem, *]) rfl ?_
      all_goals exact rp_end _ _ (below_then' HB.out ((HP.out pq).trans (HB7.out.mono (HP.out pq).size))) HR7.out (fun g o e => by injection e with e; injection e with e1 _; have := HSZ.out; omega)

set_option maxRecDepth 100000 in
set_option maxHeartbeats 4000000 in
theorem ref_kindF (w : World) (A : Option Addr) (m cap : Nat) (xs : List Int) (hr : RdB w (.slice A m cap) xs) (a c d e f : Bool) (h19 : 19 ≤ m) (hlow : ∀ j, j < 16 → xs.getD j 0 = 255) (n k x16 x17 : Int) (h16 : x16 = xs.getD 16 0) (h17 : x17 = xs.getD 17 0) (hn : n = x16 * 256 + x17) (hk : k = xs.getD 18 0) (l L : Int) (hl : leastK k = l) (hL : limitK false k = L) (hb : ¬ n < 19) (hb2 : ¬ 4096 < n) (hz : l = 0) :
    Calls Try.prog 23 #[.agg #[.bool a, .bool false, .bool c, .bool d, .bool e, .bool f], .slice A m cap] w (RfP 0 0 4 1 3 18 [k] w) := by
  obtain ⟨hml, hmc, hcap⟩ := hr.len
  have hm := hr.2.1
  unfold maxB at hm
  have hm' : m ≤ 140737488351232 := by omega
  have hm63 : (m : Int) ≤ 9223372036854775807 := by omega
  have HML := Lib.hid hml
  have b16 := hr.get (j := 16) (by omega)
  have b17 := hr.get (j := 17) (by omega)
  have b18 := hr.get (j := 18) (by omega)
  rw [← h16] at b16
  rw [← h17] at b17
  rw [← hk] at b18
  have hn0 : 0 ≤ n := by omega
  have hn1 : n ≤ 65535 := by omega
  have hw1 : IntKind.i64.wrap (x16 * 256) = x16 * 256 := by rw [IntKind.wrap_i64]; omega
  have hw2 : x16 * 256 + x17 = n := hn.symm
  have hwn : IntKind.i64.wrap n = n := by rw [IntKind.wrap_i64]; omega
  have hwk : IntKind.i64.wrap k = k := by rw [IntKind.wrap_i64]; omega
  have hwa : IntKind.i64.wrap x16 = x16 := by rw [IntKind.wrap_i64]; omega
  have hwb : IntKind.i64.wrap x17 = x17 := by rw [IntKind.wrap_i64]; omega
  obtain ⟨ga, oa, eA, hga, hcells⟩ : ∃ g o, A = some ⟨g, o, none⟩ ∧ g < w.heap.size ∧ ∀ j, j < xs.length → w.cell? ⟨g, o + j, none⟩ = some (.int .u8 (xs.getD j 0)) := by
    obtain ⟨h1, h2, A', c', e, h3, h4, h5⟩ := hr
    injection e with e1 e2 e3
    subst e1
    exact h5 (by omega)
  subst eA
  have HK : Hid (∀ W, Below w.heap.size w W → ∀ j, j < m → W.cell? ⟨ga, oa + j, none⟩ = some (.int .u8 (xs.getD j 0))) := fun W hb j hj => by
    rw [hb.cell hga, hcells j (by omega)]
  clear hcells
  have HL := Lib.hid hlow
  have HX16 := Lib.hid b16
  have HX17 := Lib.hid b17
  have HX18 := Lib.hid b18
  have HH16 := Lib.hid h16
  have HH17 := Lib.hid h17
  have HHK := Lib.hid hk
  have HLE := Lib.hid (fun w => (show Calls Try.prog 20 #[.int .i64 k] w (RV (.int .i64 l) w) from hl ▸ refleast_any k w))
  have HLI := Lib.hid (fun w => (show Calls Try.prog 18 #[.agg #[.bool a, .bool false, .bool c, .bool d, .bool e, .bool f], .int .i64 k] w (RV (.int .i64 L) w) from hL ▸ reflimit_any a false c d e f k w))
  have m16 : (16 : Int) < m := by omega
  have m17 : (17 : Int) < m := by omega
  have m18 : (18 : Int) < m := by omega
  have m19 : (19 : Int) ≤ m := by omega
  clear hlow b16 b17 b18 h16 h17 hn hk hl hL
  have k0 : (l == 0) = true := by simpa using hz
  clear hz
  clear hm hml hr
  obtain ⟨W0, hW0⟩ : ∃ W0, W0 = rw0 w a false c d e f := ⟨_, rfl⟩
  have HW := Lib.hid hW0
  have HB := Lib.hid (show Below w.heap.size w W0 by rw [hW0]; exact rw0_below w a false c d e f)
  have HS := Lib.hid (show W0.heap.size = w.heap.size + 2 by rw [hW0]; exact rw0_size w a false c d e f)
  have HC := Lib.hid (show RC w.heap.size a false c d e f W0 by rw [hW0]; exact RC.start w a false c d e f)
  clear hW0
  go_enter Try.func23, Try.ntmps23
  go_wp2_with fail
  rw [show (w.alloc (.cells #[.bool a, .bool false, .bool c, .bool d, .bool e, .bool f] 23)).alloc (.cells #[.int .i64 0, .int .i64 0, .int .i64 0, .slice none 0 0, .int .i64 0] 38) = W0 from HW.out.symm]
  go_loop [7] (fun i => ∃ j : Nat, j ≤ 16 ∧ i = .int .i64 j) (fun i => 16 - (intOf i).toNat)
  case atStart => exact ⟨0, by omega, rfl⟩
  case round =>
    obtain ⟨j, hj, rfl⟩ := hrel
    have jm : (j : Int) < m := by omega
    by_cases hlt6 : j < 16
    · have hcx : W0.cell? ⟨ga, oa + j, none⟩ = some (.int .u8 255) := by rw [HK.out W0 HB.out j (by omega), HL.out j hlt6]
      have j16 : (j : Int) < 16 := by omega
      go_wp2_with fail
      go_round
      case rel => exact ⟨j + 1, by omega, by go_num⟩
      case measure => simp [intOf]; omega
    · have j16 : ¬ (j : Int) < 16 := by omega
      obtain ⟨S, hS⟩ : ∃ S, S = fun w' => Below W0.heap.size W0 w' := ⟨_, rfl⟩
      have hSp : ∀ x, S x → Below W0.heap.size W0 x := by rw [hS]; exact fun _ h => h
      have HX := Lib.hid (show ∀ x1 x2, S x1 → Below x1.heap.size x1 x2 → S x2 from by rw [hS]; exact fun x1 x2 h hb => below_then' h hb)
      have HP := Lib.hid (show ∀ p : Wld S, Below W0.heap.size W0 p.w from fun p => hSp _ p.ok)
      have hc : ∀ p : Wld S, RC w.heap.size a false c d e f p.w := fun p => HC.out.below (hSp _ p.ok) (by have := HS.out; omega)
      have HPC := Lib.hid hc
      have c16 : ∀ p : Wld S, p.w.cell? ⟨ga, oa + 16, none⟩ = some (.int .u8 x16) := fun p => by rw [HK.out p.w (below_then' HB.out (hSp _ p.ok)) 16 (by omega), HH16.out]
      have c17 : ∀ p : Wld S, p.w.cell? ⟨ga, oa + 17, none⟩ = some (.int .u8 x17) := fun p => by rw [HK.out p.w (below_then' HB.out (hSp _ p.ok)) 17 (by omega), HH17.out]
      have c18 : ∀ p : Wld S, p.w.cell? ⟨ga, oa + 18, none⟩ = some (.int .u8 k) := fun p => by rw [HK.out p.w (below_then' HB.out (hSp _ p.ok)) 18 (by omega), HHK.out]
      have g0 : ∀ p : Wld S, p.w.cell? ⟨w.heap.size, 0, none⟩ = some (.bool a) := fun p => (hc p).1.1
      have g1 : ∀ p : Wld S, p.w.cell? ⟨w.heap.size, 1, none⟩ = some (.bool false) := fun p => (hc p).1.2.1
      have g2 : ∀ p : Wld S, p.w.cell? ⟨w.heap.size, 2, none⟩ = some (.bool c) := fun p => (hc p).1.2.2.1
      have g3 : ∀ p : Wld S, p.w.cell? ⟨w.heap.size, 3, none⟩ = some (.bool d) := fun p => (hc p).1.2.2.2.1
      have g4 : ∀ p : Wld S, p.w.cell? ⟨w.heap.size, 4, none⟩ = some (.bool e) := fun p => (hc p).1.2.2.2.2.1
      have g5 : ∀ p : Wld S, p.w.cell? ⟨w.heap.size, 5, none⟩ = some (.bool f) := fun p => (hc p).1.2.2.2.2.2
      have HSW := Lib.hid (show S W0.drew by rw [hS]; exact (Below.refl _ _).drew)
      clear hS hSp hc
      go_wp2_with fail
      have hne1 : Nonempty (Wld S) := ⟨⟨_, HSW.out⟩⟩
      refine wp_region_sub S (by kernel_rfl) (by kernel_rfl) (HSW.out) ?_
      repeat (quiet_step (fail))
      refine wpQuiet_nil ?_
      intro _ hw'
      obtain ⟨pq, hw''⟩ := hw'
      subst hw''
      go_wp2_with fail
      refine (HLE.out _).mono ?_
      rintro r w6 ⟨rfl, hb6⟩
      obtain ⟨pr, hpr⟩ : ∃ p : Wld S, p.w = w6 := ⟨⟨w6, HX.out _ _ pq.ok hb6⟩, rfl⟩
      subst hpr
      clear hb6
      have HBY := Lib.hid (show ∀ x ∈ ([k] : List Int), 0 ≤ x ∧ x ≤ 255 from fun x hx => by
        simp at hx
        subst hx; exact HX18.out)
      have HSZ := Lib.hid (show w.heap.size + 2 ≤ pr.w.heap.size by have := (HP.out pr).size; have := HS.out; omega)
      have d16 := c16 pr
      have d17 := c17 pr
      have d18 := c18 pr
      have hgp : ga < pr.w.heap.size := by have := HSZ.out; omega
      go_wp2_with (go_at_call 53; refine (bad_any _ _ _ _ _ _).mono ?_; rintro r w7 ⟨rfl, hb7⟩; have HB7 : Hid (Below pr.w.heap.size pr.w w7) := Lib.hid (by first | exact below_then' (below_alloc (Below.refl _ _).drew _) hb7 | exact below_then' (below_alloc (Below.refl _ _) _) hb7 | exact below_then' (below_alloc (Below.refl _ _) _).drew hb7); have HR7 : Hid (RdB w7 (.slice (some ⟨pr.w.heap.size, 0, none⟩) 1 1) [k]) := Lib.hid (RdB.below (by first | exact RdB.new _ _ rfl #[.int .u8 k] [k] rfl HBY.out (by simp) 1 rfl | exact RdB.drew (RdB.new _ _ rfl #[.int .u8 k] [k] rfl HBY.out (by simp) 1 rfl)) hb7); have HCX := Lib.hid ((HPC.out pr).below HB7.out HSZ.out); clear hb7; obtain ⟨⟨p0, p1, p2, p3, p4, p5⟩, ⟨r0, r1, r2, r3, r4⟩, f1⟩ := HCX.out)
      all_goals go_wp2_with fail
      all_goals refine bodyPost_ret (v := .tuple #[.int .i64 0, .int .i64 0, .agg #[.int .i64 4, .int .i64 1, .int .i64 3, .slice (some ⟨pr.w.heap.size, 0, none⟩) 1 1, .int .i64 18]]) (by simp [results, Try.results23, go_sem, *]) rfl ?_
      all_goals exact rp_end _ _ (below_then' HB.out ((HP.out pr).trans (HB7.out.mono (HP.out pr).size))) HR7.out (fun g o e => by injection e with e; injection e with e1 _; have := HSZ.out; omega)

set_option maxRecDepth 100000 in
set_option maxHeartbeats 4000000 in
theorem ref_l2aF (w : World) (A : Option Addr) (m cap : Nat) (xs : List Int) (hr : RdB w (.slice A m cap) xs) (a c d e f : Bool) (h19 : 19 ≤ m) (hlow : ∀ j, j < 16 → xs.getD j 0 = 255) (n k x16 x17 : Int) (h16 : x16 = xs.getD 16 0) (h17 : x17 = xs.getD 17 0) (hn : n = x16 * 256 + x17) (hk : k = xs.getD 18 0) (l L : Int) (hl : leastK k = l) (hL : limitK false k = L) (hb : ¬ n < 19) (hb2 : ¬ 4096 < n) (hz : ¬ l = 0) (h3 : n < l) :
    Calls Try.prog 23 #[.agg #[.bool a, .bool false, .bool c, .bool d, .bool e, .bool f], .slice A m cap] w (RfP 0 0 4 1 2 16 [x16, x17] w) := by
  obtain ⟨hml, hmc, hcap⟩ := hr.len
  have hm := hr.2.1
  unfold maxB at hm
  have hm' : m ≤ 140737488351232 := by omega
  have hm63 : (m : Int) ≤ 9223372036854775807 := by omega
  have HML := Lib.hid hml
  have b16 := hr.get (j := 16) (by omega)
  have b17 := hr.get (j := 17) (by omega)
  have b18 := hr.get (j := 18) (by omega)
  rw [← h16] at b16
  rw [← h17] at b17
  rw [← hk] at b18
  have hn0 : 0 ≤ n := by omega
  have hn1 : n ≤ 65535 := by omega
  have hw1 : IntKind.i64.wrap (x16 * 256) = x16 * 256 := by rw [IntKind.wrap_i64]; omega
  have hw2 : x16 * 256 + x17 = n := hn.symm
  have hwn : IntKind.i64.wrap n = n := by rw [IntKind.wrap_i64]; omega
  have hwk : IntKind.i64.wrap k = k := by rw [IntKind.wrap_i64]; omega
  have hwa : IntKind.i64.wrap x16 = x16 := by rw [IntKind.wrap_i64]; omega
  have hwb : IntKind.i64.wrap x17 = x17 := by rw [IntKind.wrap_i64]; omega
  obtain ⟨ga, oa, eA, hga, hcells⟩ : ∃ g o, A = some ⟨g, o, none⟩ ∧ g < w.heap.size ∧ ∀ j, j < xs.length → w.cell? ⟨g, o + j, none⟩ = some (.int .u8 (xs.getD j 0)) := by
    obtain ⟨h1, h2, A', c', e, h3, h4, h5⟩ := hr
    injection e with e1 e2 e3
    subst e1
    exact h5 (by omega)
  subst eA
  have HK : Hid (∀ W, Below w.heap.size w W → ∀ j, j < m → W.cell? ⟨ga, oa + j, none⟩ = some (.int .u8 (xs.getD j 0))) := fun W hb j hj => by
    rw [hb.cell hga, hcells j (by omega)]
  clear hcells
  have HL := Lib.hid hlow
  have HX16 := Lib.hid b16
  have HX17 := Lib.hid b17
  have HX18 := Lib.hid b18
  have HH16 := Lib.hid h16
  have HH17 := Lib.hid h17
  have HHK := Lib.hid hk
  have HLE := Lib.hid (fun w => (show Calls Try.prog 20 #[.int .i64 k] w (RV (.int .i64 l) w) from hl ▸ refleast_any k w))
  have HLI := Lib.hid (fun w => (show Calls Try.prog 18 #[.agg #[.bool a, .bool false, .bool c, .bool d, .bool e, .bool f], .int .i64 k] w (RV (.int .i64 L) w) from hL ▸ reflimit_any a false c d e f k w))
  have m16 : (16 : Int) < m := by omega
  have m17 : (17 : Int) < m := by omega
  have m18 : (18 : Int) < m := by omega
  have m19 : (19 : Int) ≤ m := by omega
  clear hlow b16 b17 b18 h16 h17 hn hk hl hL
  have k0 : (l == 0) = false := by simpa using hz
  clear hz
  clear hm hml hr
  obtain ⟨W0, hW0⟩ : ∃ W0, W0 = rw0 w a false c d e f := ⟨_, rfl⟩
  have HW := Lib.hid hW0
  have HB := Lib.hid (show Below w.heap.size w W0 by rw [hW0]; exact rw0_below w a false c d e f)
  have HS := Lib.hid (show W0.heap.size = w.heap.size + 2 by rw [hW0]; exact rw0_size w a false c d e f)
  have HC := Lib.hid (show RC w.heap.size a false c d e f W0 by rw [hW0]; exact RC.start w a false c d e f)
  clear hW0
  go_enter Try.func23, Try.ntmps23
  go_wp2_with fail
  rw [show (w.alloc (.cells #[.bool a, .bool false, .bool c, .bool d, .bool e, .bool f] 23)).alloc (.cells #[.int .i64 0, .int .i64 0, .int .i64 0, .slice none 0 0, .int .i64 0] 38) = W0 from HW.out.symm]
  go_loop [7] (fun i => ∃ j : Nat, j ≤ 16 ∧ i = .int .i64 j) (fun i => 16 - (intOf i).toNat)
  case atStart => exact ⟨0, by omega, rfl⟩
  case round =>
    obtain ⟨j, hj, rfl⟩ := hrel
    have jm : (j : Int) < m := by omega
    by_cases hlt6 : j < 16
    · have hcx : W0.cell? ⟨ga, oa + j, none⟩ = some (.int .u8 255) := by rw [HK.out W0 HB.out j (by omega), HL.out j hlt6]
      have j16 : (j : Int) < 16 := by omega
      go_wp2_with fail
      go_round
      case rel => exact ⟨j + 1, by omega, by go_num⟩
      case measure => simp [intOf]; omega
    · have j16 : ¬ (j : Int) < 16 := by omega
      obtain ⟨S, hS⟩ : ∃ S, S = fun w' => Below W0.heap.size W0 w' := ⟨_, rfl⟩
      have hSp : ∀ x, S x → Below W0.heap.size W0 x := by rw [hS]; exact fun _ h => h
      have HX := Lib.hid (show ∀ x1 x2, S x1 → Below x1.heap.size x1 x2 → S x2 from by rw [hS]; exact fun x1 x2 h hb => below_then' h hb)
      have HP := Lib.hid (show ∀ p : Wld S, Below W0.heap.size W0 p.w from fun p => hSp _ p.ok)
      have hc : ∀ p : Wld S, RC w.heap.size a false c d e f p.w := fun p => HC.out.below (hSp _ p.ok) (by have := HS.out; omega)
      have HPC := Lib.hid hc
      have c16 : ∀ p : Wld S, p.w.cell? ⟨ga, oa + 16, none⟩ = some (.int .u8 x16) := fun p => by rw [HK.out p.w (below_then' HB.out (hSp _ p.ok)) 16 (by omega), HH16.out]
      have c17 : ∀ p : Wld S, p.w.cell? ⟨ga, oa + 17, none⟩ = some (.int .u8 x17) := fun p => by rw [HK.out p.w (below_then' HB.out (hSp _ p.ok)) 17 (by omega), HH17.out]
      have c18 : ∀ p : Wld S, p.w.cell? ⟨ga, oa + 18, none⟩ = some (.int .u8 k) := fun p => by rw [HK.out p.w (below_then' HB.out (hSp _ p.ok)) 18 (by omega), HHK.out]
      have g0 : ∀ p : Wld S, p.w.cell? ⟨w.heap.size, 0, none⟩ = some (.bool a) := fun p => (hc p).1.1
      have g1 : ∀ p : Wld S, p.w.cell? ⟨w.heap.size, 1, none⟩ = some (.bool false) := fun p => (hc p).1.2.1
      have g2 : ∀ p : Wld S, p.w.cell? ⟨w.heap.size, 2, none⟩ = some (.bool c) := fun p => (hc p).1.2.2.1
      have g3 : ∀ p : Wld S, p.w.cell? ⟨w.heap.size, 3, none⟩ = some (.bool d) := fun p => (hc p).1.2.2.2.1
      have g4 : ∀ p : Wld S, p.w.cell? ⟨w.heap.size, 4, none⟩ = some (.bool e) := fun p => (hc p).1.2.2.2.2.1
      have g5 : ∀ p : Wld S, p.w.cell? ⟨w.heap.size, 5, none⟩ = some (.bool f) := fun p => (hc p).1.2.2.2.2.2
      have HSW := Lib.hid (show S W0.drew by rw [hS]; exact (Below.refl _ _).drew)
      clear hS hSp hc
      go_wp2_with fail
      have hne1 : Nonempty (Wld S) := ⟨⟨_, HSW.out⟩⟩
      refine wp_region_sub S (by kernel_rfl) (by kernel_rfl) (HSW.out) ?_
      repeat (quiet_step (fail))
      refine wpQuiet_nil ?_
      intro _ hw'
      obtain ⟨pq, hw''⟩ := hw'
      subst hw''
      go_wp2_with fail
      refine (HLE.out _).mono ?_
      rintro r w6 ⟨rfl, hb6⟩
      obtain ⟨pr, hpr⟩ : ∃ p : Wld S, p.w = w6 := ⟨⟨w6, HX.out _ _ pq.ok hb6⟩, rfl⟩
      subst hpr
      clear hb6
      go_wp2_with fail
      refine (HLE.out _).mono ?_
      rintro r w6 ⟨rfl, hb6⟩
      obtain ⟨ps, hpr⟩ : ∃ p : Wld S, p.w = w6 := ⟨⟨w6, HX.out _ _ pr.ok hb6⟩, rfl⟩
      subst hpr
      clear hb6
      go_wp2_with fail
      have HBY := Lib.hid (show ∀ x ∈ ([x16, x17] : List Int), 0 ≤ x ∧ x ≤ 255 from fun x hx => by
        simp at hx
        rcases hx with rfl | rfl
        · exact HX16.out
        · exact HX17.out)
      have HSZ := Lib.hid (show w.heap.size + 2 ≤ ps.w.heap.size by have := (HP.out ps).size; have := HS.out; omega)
      have d16 := c16 ps
      have d17 := c17 ps
      have d18 := c18 ps
      have hgp : ga < ps.w.heap.size := by have := HSZ.out; omega
      go_region_with (go_at_call 53; refine (bad_any _ _ _ _ _ _).mono ?_; rintro r w7 ⟨rfl, hb7⟩; have HB7 : Hid (Below ps.w.heap.size ps.w w7) := Lib.hid (by first | exact below_then' (below_alloc (Below.refl _ _).drew _) hb7 | exact below_then' (below_alloc (Below.refl _ _) _) hb7 | exact below_then' (below_alloc (Below.refl _ _) _).drew hb7); have HR7 : Hid (RdB w7 (.slice (some ⟨ps.w.heap.size, 0, none⟩) 2 2) [x16, x17]) := Lib.hid (RdB.below (by first | exact RdB.new _ _ rfl #[.int .u8 x16, .int .u8 x17] [x16, x17] rfl HBY.out (by simp) 2 rfl | exact RdB.drew (RdB.new _ _ rfl #[.int .u8 x16, .int .u8 x17] [x16, x17] rfl HBY.out (by simp) 2 rfl)) hb7); have HCX := Lib.hid ((HPC.out ps).below HB7.out HSZ.out); clear hb7; obtain ⟨⟨p0, p1, p2, p3, p4, p5⟩, ⟨r0, r1, r2, r3, r4⟩, f1⟩ := HCX.out)
      all_goals go_wp2_with fail
      all_goals refine bodyPost_ret (v := .tuple #[.int .i64 0, .int .i64 0, .agg #[.int .i64 4, .int .i64 1, .int .i64 2, .slice (some ⟨ps.w.heap.size, 0, none⟩) 2 2, .int .i64 16]]) (by simp [results, Try.results23, go_sem, *]) rfl ?_
      all_goals exact rp_end _ _ (below_then' HB.out ((HP.out ps).trans (HB7.out.mono (HP.out ps).size))) HR7.out (fun g o e => by injection e with e; injection e with e1 _; have := HSZ.out; omega)

set_option maxRecDepth 100000 in
set_option maxHeartbeats 4000000 in
theorem ref_l2bF (w : World) (A : Option Addr) (m cap : Nat) (xs : List Int) (hr : RdB w (.slice A m cap) xs) (a c d e f : Bool) (h19 : 19 ≤ m) (hlow : ∀ j, j < 16 → xs.getD j 0 = 255) (n k x16 x17 : Int) (h16 : x16 = xs.getD 16 0) (h17 : x17 = xs.getD 17 0) (hn : n = x16 * 256 + x17) (hk : k = xs.getD 18 0) (l L : Int) (hl : leastK k = l) (hL : limitK false k = L) (hb : ¬ n < 19) (hb2 : ¬ 4096 < n) (hz : ¬ l = 0) (h3 : ¬ n < l) (h4 : L < n) :
    Calls Try.prog 23 #[.agg #[.bool a, .bool false, .bool c, .bool d, .bool e, .bool f], .slice A m cap] w (RfP 0 0 4 1 2 16 [x16, x17] w) := by
  obtain ⟨hml, hmc, hcap⟩ := hr.len
  have hm := hr.2.1
  unfold maxB at hm
  have hm' : m ≤ 140737488351232 := by omega
  have hm63 : (m : Int) ≤ 9223372036854775807 := by omega
  have HML := Lib.hid hml
  have b16 := hr.get (j := 16) (by omega)
  have b17 := hr.get (j := 17) (by omega)
  have b18 := hr.get (j := 18) (by omega)
  rw [← h16] at b16
  rw [← h17] at b17
  rw [← hk] at b18
  have hn0 : 0 ≤ n := by omega
  have hn1 : n ≤ 65535 := by omega
  have hw1 : IntKind.i64.wrap (x16 * 256) = x16 * 256 := by rw [IntKind.wrap_i64]; omega
  have hw2 : x16 * 256 + x17 = n := hn.symm
  have hwn : IntKind.i64.wrap n = n := by rw [IntKind.wrap_i64]; omega
  have hwk : IntKind.i64.wrap k = k := by rw [IntKind.wrap_i64]; omega
  have hwa : IntKind.i64.wrap x16 = x16 := by rw [IntKind.wrap_i64]; omega
  have hwb : IntKind.i64.wrap x17 = x17 := by rw [IntKind.wrap_i64]; omega
  obtain ⟨ga, oa, eA, hga, hcells⟩ : ∃ g o, A = some ⟨g, o, none⟩ ∧ g < w.heap.size ∧ ∀ j, j < xs.length → w.cell? ⟨g, o + j, none⟩ = some (.int .u8 (xs.getD j 0)) := by
    obtain ⟨h1, h2, A', c', e, h3, h4, h5⟩ := hr
    injection e with e1 e2 e3
    subst e1
    exact h5 (by omega)
  subst eA
  have HK : Hid (∀ W, Below w.heap.size w W → ∀ j, j < m → W.cell? ⟨ga, oa + j, none⟩ = some (.int .u8 (xs.getD j 0))) := fun W hb j hj => by
    rw [hb.cell hga, hcells j (by omega)]
  clear hcells
  have HL := Lib.hid hlow
  have HX16 := Lib.hid b16
  have HX17 := Lib.hid b17
  have HX18 := Lib.hid b18
  have HH16 := Lib.hid h16
  have HH17 := Lib.hid h17
  have HHK := Lib.hid hk
  have HLE := Lib.hid (fun w => (show Calls Try.prog 20 #[.int .i64 k] w (RV (.int .i64 l) w) from hl ▸ refleast_any k w))
  have HLI := Lib.hid (fun w => (show Calls Try.prog 18 #[.agg #[.bool a, .bool false, .bool c, .bool d, .bool e, .bool f], .int .i64 k] w (RV (.int .i64 L) w) from hL ▸ reflimit_any a false c d e f k w))
  have m16 : (16 : Int) < m := by omega
  have m17 : (17 : Int) < m := by omega
  have m18 : (18 : Int) < m := by omega
  have m19 : (19 : Int) ≤ m := by omega
  clear hlow b16 b17 b18 h16 h17 hn hk hl hL
  have k0 : (l == 0) = false := by simpa using hz
  clear hz
  clear hm hml hr
  obtain ⟨W0, hW0⟩ : ∃ W0, W0 = rw0 w a false c d e f := ⟨_, rfl⟩
  have HW := Lib.hid hW0
  have HB := Lib.hid (show Below w.heap.size w W0 by rw [hW0]; exact rw0_below w a false c d e f)
  have HS := Lib.hid (show W0.heap.size = w.heap.size + 2 by rw [hW0]; exact rw0_size w a false c d e f)
  have HC := Lib.hid (show RC w.heap.size a false c d e f W0 by rw [hW0]; exact RC.start w a false c d e f)
  clear hW0
  go_enter Try.func23, Try.ntmps23
  go_wp2_with fail
  rw [show (w.alloc (.cells #[.bool a, .bool false, .bool c, .bool d, .bool e, .bool f] 23)).alloc (.cells #[.int .i64 0, .int .i64 0, .int .i64 0, .slice none 0 0, .int .i64 0] 38) = W0 from HW.out.symm]
  go_loop [7] (fun i => ∃ j : Nat, j ≤ 16 ∧ i = .int .i64 j) (fun i => 16 - (intOf i).toNat)
  case atStart => exact ⟨0, by omega, rfl⟩
  case round =>
    obtain ⟨j, hj, rfl⟩ := hrel
    have jm : (j : Int) < m := by omega
    by_cases hlt6 : j < 16
    · have hcx : W0.cell? ⟨ga, oa + j, none⟩ = some (.int .u8 255) := by rw [HK.out W0 HB.out j (by omega), HL.out j hlt6]
      have j16 : (j : Int) < 16 := by omega
      go_wp2_with fail
      go_round
      case rel => exact ⟨j + 1, by omega, by go_num⟩
      case measure => simp [intOf]; omega
    · have j16 : ¬ (j : Int) < 16 := by omega
      obtain ⟨S, hS⟩ : ∃ S, S = fun w' => Below W0.heap.size W0 w' := ⟨_, rfl⟩
      have hSp : ∀ x, S x → Below W0.heap.size W0 x := by rw [hS]; exact fun _ h => h
      have HX := Lib.hid (show ∀ x1 x2, S x1 → Below x1.heap.size x1 x2 → S x2 from by rw [hS]; exact fun x1 x2 h hb => below_then' h hb)
      have HP := Lib.hid (show ∀ p : Wld S, Below W0.heap.size W0 p.w from fun p => hSp _ p.ok)
      have hc : ∀ p : Wld S, RC w.heap.size a false c d e f p.w := fun p => HC.out.below (hSp _ p.ok) (by have := HS.out; omega)
      have HPC := Lib.hid hc
      have c16 : ∀ p : Wld S, p.w.cell? ⟨ga, oa + 16, none⟩ = some (.int .u8 x16) := fun p => by rw [HK.out p.w (below_then' HB.out (hSp _ p.ok)) 16 (by omega), HH16.out]
      have c17 : ∀ p : Wld S, p.w.cell? ⟨ga, oa + 17, none⟩ = some (.int .u8 x17) := fun p => by rw [HK.out p.w (below_then' HB.out (hSp _ p.ok)) 17 (by omega), HH17.out]
      have c18 : ∀ p : Wld S, p.w.cell? ⟨ga, oa + 18, none⟩ = some (.int .u8 k) := fun p => by rw [HK.out p.w (below_then' HB.out (hSp _ p.ok)) 18 (by omega), HHK.out]
      have g0 : ∀ p : Wld S, p.w.cell? ⟨w.heap.size, 0, none⟩ = some (.bool a) := fun p => (hc p).1.1
      have g1 : ∀ p : Wld S, p.w.cell? ⟨w.heap.size, 1, none⟩ = some (.bool false) := fun p => (hc p).1.2.1
      have g2 : ∀ p : Wld S, p.w.cell? ⟨w.heap.size, 2, none⟩ = some (.bool c) := fun p => (hc p).1.2.2.1
      have g3 : ∀ p : Wld S, p.w.cell? ⟨w.heap.size, 3, none⟩ = some (.bool d) := fun p => (hc p).1.2.2.2.1
      have g4 : ∀ p : Wld S, p.w.cell? ⟨w.heap.size, 4, none⟩ = some (.bool e) := fun p => (hc p).1.2.2.2.2.1
      have g5 : ∀ p : Wld S, p.w.cell? ⟨w.heap.size, 5, none⟩ = some (.bool f) := fun p => (hc p).1.2.2.2.2.2
      have HSW := Lib.hid (show S W0.drew by rw [hS]; exact (Below.refl _ _).drew)
      clear hS hSp hc
      go_wp2_with fail
      have hne1 : Nonempty (Wld S) := ⟨⟨_, HSW.out⟩⟩
      refine wp_region_sub S (by kernel_rfl) (by kernel_rfl) (HSW.out) ?_
      repeat (quiet_step (fail))
      refine wpQuiet_nil ?_
      intro _ hw'
      obtain ⟨pq, hw''⟩ := hw'
      subst hw''
      go_wp2_with fail
      refine (HLE.out _).mono ?_
      rintro r w6 ⟨rfl, hb6⟩
      obtain ⟨pr, hpr⟩ : ∃ p : Wld S, p.w = w6 := ⟨⟨w6, HX.out _ _ pq.ok hb6⟩, rfl⟩
      subst hpr
      clear hb6
      go_wp2_with fail
      refine (HLE.out _).mono ?_
      rintro r w6 ⟨rfl, hb6⟩
      obtain ⟨ps, hpr⟩ : ∃ p : Wld S, p.w = w6 := ⟨⟨w6, HX.out _ _ pr.ok hb6⟩, rfl⟩
      subst hpr
      clear hb6
      go_wp2_with fail
      refine (HLI.out _).mono ?_
      rintro r w6 ⟨rfl, hb6⟩
      obtain ⟨pt, hpr⟩ : ∃ p : Wld S, p.w = w6 := ⟨⟨w6, HX.out _ _ ps.ok hb6⟩, rfl⟩
      subst hpr
      clear hb6
      go_wp2_with fail
      have HBY := Lib.hid (show ∀ x ∈ ([x16, x17] : List Int), 0 ≤ x ∧ x ≤ 255 from fun x hx => by
        simp at hx
        rcases hx with rfl | rfl
        · exact HX16.out
        · exact HX17.out)
      have HSZ := Lib.hid (show w.heap.size + 2 ≤ pt.w.heap.size by have := (HP.out pt).size; have := HS.out; omega)
      have d16 := c16 pt
      have d17 := c17 pt
      have d18 := c18 pt
      have hgp : ga < pt.w.heap.size := by have := HSZ.out; omega
      go_region_with (go_at_call 53; refine (bad_any _ _ _ _ _ _).mono ?_; rintro r w7 ⟨rfl, hb7⟩; have HB7 : Hid (Below pt.w.heap.size pt.w w7) := Lib.hid (by first | exact below_then' (below_alloc (Below.refl _ _).drew _) hb7 | exact below_then' (below_alloc (Below.refl _ _) _) hb7 | exact below_then' (below_alloc (Below.refl _ _) _).drew hb7); have HR7 : Hid (RdB w7 (.slice (some ⟨pt.w.heap.size, 0, none⟩) 2 2) [x16, x17]) := Lib.hid (RdB.below (by first | exact RdB.new _ _ rfl #[.int .u8 x16, .int .u8 x17] [x16, x17] rfl HBY.out (by simp) 2 rfl | exact RdB.drew (RdB.new _ _ rfl #[.int .u8 x16, .int .u8 x17] [x16, x17] rfl HBY.out (by simp) 2 rfl)) hb7); have HCX := Lib.hid ((HPC.out pt).below HB7.out HSZ.out); clear hb7; obtain ⟨⟨p0, p1, p2, p3, p4, p5⟩, ⟨r0, r1, r2, r3, r4⟩, f1⟩ := HCX.out)
      all_goals go_wp2_with fail
      all_goals refine bodyPost_ret (v := .tuple #[.int .i64 0, .int .i64 0, .agg #[.int .i64 4, .int .i64 1, .int .i64 2, .slice (some ⟨pt.w.heap.size, 0, none⟩) 2 2, .int .i64 16]]) (by simp [results, Try.results23, go_sem, *]) rfl ?_
      all_goals exact rp_end _ _ (below_then' HB.out ((HP.out pt).trans (HB7.out.mono (HP.out pt).size))) HR7.out (fun g o e => by injection e with e; injection e with e1 _; have := HSZ.out; omega)

set_option maxRecDepth 100000 in
set_option maxHeartbeats 4000000 in
theorem ref_okF (w : World) (A : Option Addr) (m cap : Nat) (xs : List Int) (hr : RdB w (.slice A m cap) xs) (a c d e f : Bool) (h19 : 19 ≤ m) (hlow : ∀ j, j < 16 → xs.getD j 0 = 255) (n k x16 x17 : Int) (h16 : x16 = xs.getD 16 0) (h17 : x17 = xs.getD 17 0) (hn : n = x16 * 256 + x17) (hk : k = xs.getD 18 0) (l L : Int) (hl : leastK k = l) (hL : limitK false k = L) (hb : ¬ n < 19) (hb2 : ¬ 4096 < n) (hz : ¬ l = 0) (h3 : ¬ n < l) (h4 : ¬ L < n) :
    Calls Try.prog 23 #[.agg #[.bool a, .bool false, .bool c, .bool d, .bool e, .bool f], .slice A m cap] w (RfP n k 0 0 0 0 [] w) := by
  obtain ⟨hml, hmc, hcap⟩ := hr.len
  have hm := hr.2.1
  unfold maxB at hm
  have hm' : m ≤ 140737488351232 := by omega
  have hm63 : (m : Int) ≤ 9223372036854775807 := by omega
  have HML := Lib.hid hml
  have b16 := hr.get (j := 16) (by omega)
  have b17 := hr.get (j := 17) (by omega)
  have b18 := hr.get (j := 18) (by omega)
  rw [← h16] at b16
  rw [← h17] at b17
  rw [← hk] at b18
  have hn0 : 0 ≤ n := by omega
  have hn1 : n ≤ 65535 := by omega
  have hw1 : IntKind.i64.wrap (x16 * 256) = x16 * 256 := by rw [IntKind.wrap_i64]; omega
  have hw2 : x16 * 256 + x17 = n := hn.symm
  have hwn : IntKind.i64.wrap n = n := by rw [IntKind.wrap_i64]; omega
  have hwk : IntKind.i64.wrap k = k := by rw [IntKind.wrap_i64]; omega
  have hwa : IntKind.i64.wrap x16 = x16 := by rw [IntKind.wrap_i64]; omega
  have hwb : IntKind.i64.wrap x17 = x17 := by rw [IntKind.wrap_i64]; omega
  obtain ⟨ga, oa, eA, hga, hcells⟩ : ∃ g o, A = some ⟨g, o, none⟩ ∧ g < w.heap.size ∧ ∀ j, j < xs.length → w.cell? ⟨g, o + j, none⟩ = some (.int .u8 (xs.getD j 0)) := by
    obtain ⟨h1, h2, A', c', e, h3, h4, h5⟩ := hr
    injection e with e1 e2 e3
    subst e1
    exact h5 (by omega)
  subst eA
  have HK : Hid (∀ W, Below w.heap.size w W → ∀ j, j < m → W.cell? ⟨ga, oa + j, none⟩ = some (.int .u8 (xs.getD j 0))) := fun W hb j hj => by
    rw [hb.cell hga, hcells j (by omega)]
  clear hcells
  have HL := Lib.hid hlow
  have HX16 := Lib.hid b16
  have HX17 := Lib.hid b17
  have HX18 := Lib.hid b18
  have HH16 := Lib.hid h16
  have HH17 := Lib.hid h17
  have HHK := Lib.hid hk
  have HLE := Lib.hid (fun w => (show Calls Try.prog 20 #[.int .i64 k] w (RV (.int .i64 l) w) from hl ▸ refleast_any k w))
  have HLI := Lib.hid (fun w => (show Calls Try.prog 18 #[.agg #[.bool a, .bool false, .bool c, .bool d, .bool e, .bool f], .int .i64 k] w (RV (.int .i64 L) w) from hL ▸ reflimit_any a false c d e f k w))
  have m16 : (16 : Int) < m := by omega
  have m17 : (17 : Int) < m := by omega
  have m18 : (18 : Int) < m := by omega
  have m19 : (19 : Int) ≤ m := by omega
  clear hlow b16 b17 b18 h16 h17 hn hk hl hL
  have k0 : (l == 0) = false := by simpa using hz
  clear hz
  clear hm hml hr
  obtain ⟨W0, hW0⟩ : ∃ W0, W0 = rw0 w a false c d e f := ⟨_, rfl⟩
  have HW := Lib.hid hW0
  have HB := Lib.hid (show Below w.heap.size w W0 by rw [hW0]; exact rw0_below w a false c d e f)
  have HS := Lib.hid (show W0.heap.size = w.heap.size + 2 by rw [hW0]; exact rw0_size w a false c d e f)
  have HC := Lib.hid (show RC w.heap.size a false c d e f W0 by rw [hW0]; exact RC.start w a false c d e f)
  clear hW0
  go_enter Try.func23, Try.ntmps23
  go_wp2_with fail
  rw [show (w.alloc (.cells #[.bool a, .bool false, .bool c, .bool d, .bool e, .bool f] 23)).alloc (.cells #[.int .i64 0, .int .i64 0, .int .i64 0, .slice none 0 0, .int .i64 0] 38) = W0 from HW.out.symm]
  go_loop [7] (fun i => ∃ j : Nat, j ≤ 16 ∧ i = .int .i64 j) (fun i => 16 - (intOf i).toNat)
  case atStart => exact ⟨0, by omega, rfl⟩
  case round =>
    obtain ⟨j, hj, rfl⟩ := hrel
    have jm : (j : Int) < m := by omega
    by_cases hlt6 : j < 16
    · have hcx : W0.cell? ⟨ga, oa + j, none⟩ = some (.int .u8 255) := by rw [HK.out W0 HB.out j (by omega), HL.out j hlt6]
      have j16 : (j : Int) < 16 := by omega
      go_wp2_with fail
      go_round
      case rel => exact ⟨j + 1, by omega, by go_num⟩
      case measure => simp [intOf]; omega
    · have j16 : ¬ (j : Int) < 16 := by omega
      obtain ⟨S, hS⟩ : ∃ S, S = fun w' => Below W0.heap.size W0 w' := ⟨_, rfl⟩
      have hSp : ∀ x, S x → Below W0.heap.size W0 x := by rw [hS]; exact fun _ h => h
      have HX := Lib.hid (show ∀ x1 x2, S x1 → Below x1.heap.size x1 x2 → S x2 from by rw [hS]; exact fun x1 x2 h hb => below_then' h hb)
      have HP := Lib.hid (show ∀ p : Wld S, Below W0.heap.size W0 p.w from fun p => hSp _ p.ok)
      have hc : ∀ p : Wld S, RC w.heap.size a false c d e f p.w := fun p => HC.out.below (hSp _ p.ok) (by have := HS.out; omega)
      have HPC := Lib.hid hc
      have c16 : ∀ p : Wld S, p.w.cell? ⟨ga, oa + 16, none⟩ = some (.int .u8 x16) := fun p => by rw [HK.out p.w (below_then' HB.out (hSp _ p.ok)) 16 (by omega), HH16.out]
      have c17 : ∀ p : Wld S, p.w.cell? ⟨ga, oa + 17, none⟩ = some (.int .u8 x17) := fun p => by rw [HK.out p.w (below_then' HB.out (hSp _ p.ok)) 17 (by omega), HH17.out]
      have c18 : ∀ p : Wld S, p.w.cell? ⟨ga, oa + 18, none⟩ = some (.int .u8 k) := fun p => by rw [HK.out p.w (below_then' HB.out (hSp _ p.ok)) 18 (by omega), HHK.out]
      have g0 : ∀ p : Wld S, p.w.cell? ⟨w.heap.size, 0, none⟩ = some (.bool a) := fun p => (hc p).1.1
      have g1 : ∀ p : Wld S, p.w.cell? ⟨w.heap.size, 1, none⟩ = some (.bool false) := fun p => (hc p).1.2.1
      have g2 : ∀ p : Wld S, p.w.cell? ⟨w.heap.size, 2, none⟩ = some (.bool c) := fun p => (hc p).1.2.2.1
      have g3 : ∀ p : Wld S, p.w.cell? ⟨w.heap.size, 3, none⟩ = some (.bool d) := fun p => (hc p).1.2.2.2.1
      have g4 : ∀ p : Wld S, p.w.cell? ⟨w.heap.size, 4, none⟩ = some (.bool e) := fun p => (hc p).1.2.2.2.2.1
      have g5 : ∀ p : Wld S, p.w.cell? ⟨w.heap.size, 5, none⟩ = some (.bool f) := fun p => (hc p).1.2.2.2.2.2
      have HSW := Lib.hid (show S W0.drew by rw [hS]; exact (Below.refl _ _).drew)
      clear hS hSp hc
      go_wp2_with fail
      have hne1 : Nonempty (Wld S) := ⟨⟨_, HSW.out⟩⟩
      refine wp_region_sub S (by kernel_rfl) (by kernel_rfl) (HSW.out) ?_
      repeat (quiet_step (fail))
      refine wpQuiet_nil ?_
      intro _ hw'
      obtain ⟨pq, hw''⟩ := hw'
      subst hw''
      go_wp2_with fail
      refine (HLE.out _).mono ?_
      rintro r w6 ⟨rfl, hb6⟩
      obtain ⟨pr, hpr⟩ : ∃ p : Wld S, p.w = w6 := ⟨⟨w6, HX.out _ _ pq.ok hb6⟩, rfl⟩
      subst hpr
      clear hb6
      go_wp2_with fail
      refine (HLE.out _).mono ?_
      rintro r w6 ⟨rfl, hb6⟩
      obtain ⟨ps, hpr⟩ : ∃ p : Wld S, p.w = w6 := ⟨⟨w6, HX.out _ _ pr.ok hb6⟩, rfl⟩
      subst hpr
      clear hb6
      go_wp2_with fail
      refine (HLI.out _).mono ?_
      rintro r w6 ⟨rfl, hb6⟩
      obtain ⟨pt, hpr⟩ : ∃ p : Wld S, p.w = w6 := ⟨⟨w6, HX.out _ _ ps.ok hb6⟩, rfl⟩
      subst hpr
      clear hb6
      obtain ⟨⟨p0, p1, p2, p3, p4, p5⟩, ⟨r0, r1, r2, r3, r4⟩, f1⟩ := HPC.out pt
      go_wp2_with fail
      refine bodyPost_ret (v := .tuple #[.int .i64 n, .int .i64 k, .agg #[.int .i64 0, .int .i64 0, .int .i64 0, .slice none 0 0, .int .i64 0]]) (by simp [results, Try.results23, go_sem, *]) rfl ?_
      exact rp_end none 0 (below_then' HB.out (HP.out pt)) (RdB.nil _ none 0 ⟨by omega, fun _ => rfl⟩) (fun _ _ e => nomatch e)


end Go.Proofs.Ytdiiolbkjmhmdaa
