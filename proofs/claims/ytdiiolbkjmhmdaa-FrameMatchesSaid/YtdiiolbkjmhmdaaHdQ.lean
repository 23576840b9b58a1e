/- header.Parse of 19 bytes and more, none of whose marker's is wrong. -/
import Derived.Test.YtdiiolbkjmhmdaaHdP
import Derived.Test.YtdiiolbkjmhmdaaHdF
namespace Go.Proofs.Ytdiiolbkjmhmdaa
open Go.RowKit
set_option linter.unusedSimpArgs false
set_option linter.unusedVariables false

set_option maxRecDepth 100000 in
set_option maxHeartbeats 4000000 in
theorem parse_l1a (w : World) (A : Option Addr) (m cap : Nat) (xs : List Int) (hr : RdB w (.slice A m cap) xs) (h19 : 19 ≤ m) (a b c d e f : Bool) (hI : markI (xs.take 16) = -1) (n k x16 x17 : Int) (h16 : x16 = xs.getD 16 0) (h17 : x17 = xs.getD 17 0) (hn : n = x16 * 256 + x17) (hk : k = xs.getD 18 0) (M : Int) (hM : mostK b = M) (l L : Int) (hl : leastK k = l) (hL : limitK b k = L) (hb : n < 19) :
    Calls Try.prog 22 #[.agg #[.bool a, .bool b, .bool c, .bool d, .bool e, .bool f], .slice A m cap] w (PP 0 0 4 1 2 16 [x16, x17] w) := by
  obtain ⟨hml, hmc, hcap⟩ := hr.len
  have hm := hr.2.1
  unfold maxB at hm
  have hm' : m ≤ 140737488351232 := by omega
  have hce : (m : Int) ≤ cap := by omega
  have hle : (16 : Int) ≤ m := by omega
  have hle2 : (19 : Int) ≤ m := by omega
  have hle3 : (18 : Int) < m := by omega
  have hle4 : (17 : Int) < m := by omega
  have hle5 : (16 : Int) < m := by omega
  have hce2 : (16 : Int) ≤ cap := by omega
  have hmin : min (m : Int) 16 = 16 := by omega
  have b16 := hr.get (j := 16) (by omega)
  have b17 := hr.get (j := 17) (by omega)
  have b18 := hr.get (j := 18) (by omega)
  rw [← h16] at b16
  rw [← h17] at b17
  rw [← hk] at b18
  have hn0 : 0 ≤ n := by omega
  have hn1 : n ≤ 65535 := by omega
  have hwn : IntKind.i64.wrap n = n := by rw [IntKind.wrap_i64]; omega
  have hwk : IntKind.i64.wrap k = k := by rw [IntKind.wrap_i64]; omega
  obtain ⟨ga, oa, eA, hga, hcells⟩ : ∃ g o, A = some ⟨g, o, none⟩ ∧ g < w.heap.size ∧ ∀ j, j < xs.length → w.cell? ⟨g, o + j, none⟩ = some (.int .u8 (xs.getD j 0)) := by
    obtain ⟨h1, h2, A', c', e, h3, h4, h5⟩ := hr
    injection e with e1 e2 e3
    subst e1
    exact h5 (by omega)
  subst eA
  have HK : Hid (∀ W, Below w.heap.size w W → W.cell? ⟨ga, oa + 16, none⟩ = some (.int .u8 x16) ∧ W.cell? ⟨ga, oa + 17, none⟩ = some (.int .u8 x17) ∧ W.cell? ⟨ga, oa + 18, none⟩ = some (.int .u8 k)) := fun W hb => by
    refine ⟨?_, ?_, ?_⟩
    · rw [hb.cell hga, hcells 16 (by omega), h16]
    · rw [hb.cell hga, hcells 17 (by omega), h17]
    · rw [hb.cell hga, hcells 18 (by omega), hk]
  have HD := Lib.hid (show xs.drop 16 = x16 :: x17 :: k :: xs.drop 19 by rw [h16, h17, hk]; exact drop_16 (by omega))
  have HQ := Lib.hid (hr.take (q := 16) (by omega))
  have HR := Lib.hid hr
  have HL := Lib.hid (show 16 ≤ xs.length by omega)
  have HN := Lib.hid hn
  have HI := Lib.hid hI
  have HX16 := Lib.hid b16
  have HX17 := Lib.hid b17
  have HX18 := Lib.hid b18
  have HMO := Lib.hid (fun w => (show Calls Try.prog 46 #[.agg #[.bool a, .bool b, .bool c, .bool d, .bool e, .bool f]] w (RV (.int .i64 M) w) from hM ▸ most_any a b c d e f w))
  have HLE := Lib.hid (fun w => (show Calls Try.prog 19 #[.int .i64 k] w (RV (.int .i64 l) w) from hl ▸ least_any k w))
  have HLI := Lib.hid (fun w => (show Calls Try.prog 17 #[.agg #[.bool a, .bool b, .bool c, .bool d, .bool e, .bool f], .int .i64 k] w (RV (.int .i64 L) w) from hL ▸ limit_any a b c d e f k w))
  clear hI hr hml hm h16 h17 hn hk hM hl hL hcells b16 b17 b18
  obtain ⟨W0, hW0⟩ : ∃ W0, W0 = pw w a b c d e f := ⟨_, rfl⟩
  have HW := Lib.hid hW0
  have HB := Lib.hid (show Below w.heap.size w W0 by rw [hW0]; exact pw_below w a b c d e f)
  have HS := Lib.hid (show W0.heap.size = w.heap.size + 3 by rw [hW0]; exact pw_size w a b c d e f)
  have HC := Lib.hid (show PC w.heap.size a b c d e f W0 by rw [hW0]; exact PC.start w a b c d e f)
  clear hW0
  go_enter Try.func22, Try.ntmps22
  go_wp2_with fail
  rw [show ((w.alloc (.cells #[.bool a, .bool b, .bool c, .bool d, .bool e, .bool f] 23)).alloc (.cells #[.int .i64 0, .int .i64 0] 28)).alloc (.cells #[.int .i64 0, .int .i64 0, .int .i64 0, .slice none 0 0, .int .i64 0] 38) = W0 from HW.out.symm]
  refine (index_any _ _ _ (HQ.out.below HB.out)).mono ?_
  rintro r w1 ⟨rfl, hb1⟩
  have HB1 := Lib.hid hb1
  have HS1 := Lib.hid hb1.size
  clear hb1
  rw [HI.out]
  go_wp2_with fail
  refine (new_any _ _ _ (HR.out.below (below_then' HB.out HB1.out))).mono ?_
  rintro r w2 ⟨g, rfl, hg, hb2, hrd⟩
  have HG := Lib.hid hg
  have HB2 := Lib.hid hb2
  have HR2 := Lib.hid hrd
  clear hg hb2 hrd
  go_wp2_with fail
  refine (take_any g xs 0 16 (by omega) (by omega) (by omega) _ HR2.out).mono ?_
  rintro r w3 ⟨v3, rfl, hb3, hrd3⟩
  rw [if_pos HL.out, HD.out] at hrd3
  have HB3 := Lib.hid hb3
  have HR3 := Lib.hid hrd3
  clear hb3 hrd3
  go_wp2_with fail
  refine (number_2 g x16 x17 (k :: xs.drop 19) _ (by simp) _ HR3.out).mono ?_
  rintro r w4 ⟨rfl, hb4, hrd4⟩
  have HB4 := Lib.hid hb4
  have HR4 := Lib.hid hrd4
  clear hb4 hrd4
  rw [← HN.out]
  go_wp2_with fail
  refine (number_1 g k (xs.drop 19) _ (by simp) _ HR4.out).mono ?_
  rintro r w5 ⟨rfl, hb5, hrd5⟩
  have HB5 := Lib.hid (show Below W0.heap.size W0 w5 from HB1.out.trans ((HB2.out.mono HS1.out).trans (((HB3.out.trans HB4.out).trans hb5).mono (Nat.le_trans HS1.out HG.out))))
  clear hb5 hrd5
  go_wp2_with fail
  obtain ⟨W1, hW1⟩ : ∃ W1, W1 = w5.alloc (.cells #[.int .i64 n, .int .i64 k] 28) := ⟨_, rfl⟩
  rw [← hW1]
  obtain ⟨P, hP⟩ : ∃ P, P = w5.heap.size := ⟨_, rfl⟩
  rw [← hP]
  have hPS : w.heap.size + 3 ≤ P := by have := HB5.out.size; have := HS.out; omega
  obtain ⟨S, hS⟩ : ∃ S, S = fun w' => Below W1.heap.size W1 w' := ⟨_, rfl⟩
  have hSp : ∀ x, S x → Below W1.heap.size W1 x := by rw [hS]; exact fun _ h => h
  have HX := Lib.hid (show ∀ x1 x2, S x1 → Below x1.heap.size x1 x2 → S x2 from by rw [hS]; exact fun x1 x2 h hb => below_then' h hb)
  have hW0 : ∀ p : Wld S, Below W0.heap.size W0 p.w := fun p => (HB5.out.trans (below_alloc' (Below.refl _ _) HB5.out.size (.cells #[.int .i64 n, .int .i64 k] 28))).trans (by rw [← hW1]; exact (hSp _ p.ok).mono (by rw [hW1]; have := HB5.out.size; simp; omega))
  have HP := Lib.hid hW0
  have hc : ∀ p : Wld S, PC w.heap.size a b c d e f p.w := fun p => HC.out.below (hW0 p) (by have := HS.out; omega)
  have HPC := Lib.hid hc
  have h0 : ∀ p : Wld S, p.w.cell? ⟨P, 0, none⟩ = some (.int .i64 n) := fun p => by rw [(hSp _ p.ok).cell (by rw [hW1, hP]; simp), hW1, World.cell?_alloc_at _ _ _ _ hP]; rfl
  have h1 : ∀ p : Wld S, p.w.cell? ⟨P, 1, none⟩ = some (.int .i64 k) := fun p => by rw [(hSp _ p.ok).cell (by rw [hW1, hP]; simp), hW1, World.cell?_alloc_at _ _ _ _ hP]; rfl
  have g0 : ∀ p : Wld S, p.w.cell? ⟨w.heap.size, 0, none⟩ = some (.bool a) := fun p => (hc p).1.1
  have g1 : ∀ p : Wld S, p.w.cell? ⟨w.heap.size, 1, none⟩ = some (.bool b) := fun p => (hc p).1.2.1
  have g2 : ∀ p : Wld S, p.w.cell? ⟨w.heap.size, 2, none⟩ = some (.bool c) := fun p => (hc p).1.2.2.1
  have g3 : ∀ p : Wld S, p.w.cell? ⟨w.heap.size, 3, none⟩ = some (.bool d) := fun p => (hc p).1.2.2.2.1
  have g4 : ∀ p : Wld S, p.w.cell? ⟨w.heap.size, 4, none⟩ = some (.bool e) := fun p => (hc p).1.2.2.2.2.1
  have g5 : ∀ p : Wld S, p.w.cell? ⟨w.heap.size, 5, none⟩ = some (.bool f) := fun p => (hc p).1.2.2.2.2.2
  have HSW := Lib.hid (show S W1.drew by rw [hS]; exact (Below.refl _ _).drew)
  have HSS := Lib.hid (show ∀ p : Wld S, S p.w.drew by rw [hS]; exact fun p => ((show Below W1.heap.size W1 p.w by have := p.ok; simpa [hS] using this)).drew)
  clear hS hSp hW0 hc hW1 hP
  have hne1 : Nonempty (Wld S) := ⟨⟨_, HSW.out⟩⟩
  refine wp_region_sub S (by kernel_rfl) (by kernel_rfl) (HSW.out) ?_
  repeat (quiet_step (first
      | (go_at_call 46; exact calls_sub HX.out (HMO.out _))
      | (go_at_call 19; exact calls_sub HX.out (HLE.out _))
      | (go_at_call 17; exact calls_sub HX.out (HLI.out _))))
  refine wpQuiet_nil ?_
  intro _ hw'
  obtain ⟨pq, hw''⟩ := hw'
  subst hw''
  go_wp2_with fail
  have HBY := Lib.hid (show ∀ x ∈ ([x16, x17] : List Int), 0 ≤ x ∧ x ≤ 255 from fun x hx => by
    simp at hx
    rcases hx with rfl | rfl
    · exact HX16.out
    · exact HX17.out)
  have HSZ := Lib.hid (show w.heap.size + 3 ≤ pq.w.heap.size by have := (HP.out pq).size; have := HS.out; omega)
  obtain ⟨c16, c17, c18⟩ := HK.out pq.w (below_then' HB.out (HP.out pq))
  have hgp : ga < pq.w.heap.size := by have := HSZ.out; omega
  go_region_with (go_at_call 47; refine (fail_any _ _ _ _ _ _).mono ?_; rintro r w7 ⟨rfl, hb7⟩; have HB7 : Hid (Below pq.w.heap.size pq.w w7) := Lib.hid (by first | exact below_then' (below_alloc (Below.refl _ _).drew _) hb7 | exact below_then' (below_alloc (Below.refl _ _) _) hb7 | exact below_then' (below_alloc (Below.refl _ _) _).drew hb7); have HR7 : Hid (RdB w7 (.slice (some ⟨pq.w.heap.size, 0, none⟩) 2 2) [x16, x17]) := Lib.hid (RdB.below (by first | exact RdB.new _ _ rfl #[.int .u8 x16, .int .u8 x17] [x16, x17] rfl HBY.out (by simp) 2 rfl | exact RdB.drew (RdB.new _ _ rfl #[.int .u8 x16, .int .u8 x17] [x16, x17] rfl HBY.out (by simp) 2 rfl)) hb7); have HCX := Lib.hid ((HPC.out pq).below HB7.out HSZ.out); clear hb7; obtain ⟨⟨p0, p1, p2, p3, p4, p5⟩, ⟨q0, q1⟩, ⟨r0, r1, r2, r3, r4⟩, f1, f2⟩ := HCX.out)
  all_goals go_wp2_with fail
  all_goals refine bodyPost_ret (v := .tuple #[.agg #[.int .i64 0, .int .i64 0], .agg #[.int .i64 4, .int .i64 1, .int .i64 2, .slice (some ⟨pq.w.heap.size, 0, none⟩) 2 2, .int .i64 16]]) (by simp [results, Try.results22, go_sem, *]) rfl ?_
  all_goals exact pp_end _ _ (below_then' HB.out ((HP.out pq).trans (HB7.out.mono (HP.out pq).size))) HR7.out (fun g o e => by injection e with e; injection e with e1 _; have := HSZ.out; omega)

set_option maxRecDepth 100000 in
set_option maxHeartbeats 4000000 in
theorem parse_l1b (w : World) (A : Option Addr) (m cap : Nat) (xs : List Int) (hr : RdB w (.slice A m cap) xs) (h19 : 19 ≤ m) (a b c d e f : Bool) (hI : markI (xs.take 16) = -1) (n k x16 x17 : Int) (h16 : x16 = xs.getD 16 0) (h17 : x17 = xs.getD 17 0) (hn : n = x16 * 256 + x17) (hk : k = xs.getD 18 0) (M : Int) (hM : mostK b = M) (l L : Int) (hl : leastK k = l) (hL : limitK b k = L) (hb : ¬ n < 19) (hb2 : M < n) :
    Calls Try.prog 22 #[.agg #[.bool a, .bool b, .bool c, .bool d, .bool e, .bool f], .slice A m cap] w (PP 0 0 4 1 2 16 [x16, x17] w) := by
  obtain ⟨hml, hmc, hcap⟩ := hr.len
  have hm := hr.2.1
  unfold maxB at hm
  have hm' : m ≤ 140737488351232 := by omega
  have hce : (m : Int) ≤ cap := by omega
  have hle : (16 : Int) ≤ m := by omega
  have hle2 : (19 : Int) ≤ m := by omega
  have hle3 : (18 : Int) < m := by omega
  have hle4 : (17 : Int) < m := by omega
  have hle5 : (16 : Int) < m := by omega
  have hce2 : (16 : Int) ≤ cap := by omega
  have hmin : min (m : Int) 16 = 16 := by omega
  have b16 := hr.get (j := 16) (by omega)
  have b17 := hr.get (j := 17) (by omega)
  have b18 := hr.get (j := 18) (by omega)
  rw [← h16] at b16
  rw [← h17] at b17
  rw [← hk] at b18
  have hn0 : 0 ≤ n := by omega
  have hn1 : n ≤ 65535 := by omega
  have hwn : IntKind.i64.wrap n = n := by rw [IntKind.wrap_i64]; omega
  have hwk : IntKind.i64.wrap k = k := by rw [IntKind.wrap_i64]; omega
  obtain ⟨ga, oa, eA, hga, hcells⟩ : ∃ g o, A = some ⟨g, o, none⟩ ∧ g < w.heap.size ∧ ∀ j, j < xs.length → w.cell? ⟨g, o + j, none⟩ = some (.int .u8 (xs.getD j 0)) := by
    obtain ⟨h1, h2, A', c', e, h3, h4, h5⟩ := hr
    injection e with e1 e2 e3
    subst e1
    exact h5 (by omega)
  subst eA
  have HK : Hid (∀ W, Below w.heap.size w W → W.cell? ⟨ga, oa + 16, none⟩ = some (.int .u8 x16) ∧ W.cell? ⟨ga, oa + 17, none⟩ = some (.int .u8 x17) ∧ W.cell? ⟨ga, oa + 18, none⟩ = some (.int .u8 k)) := fun W hb => by
    refine ⟨?_, ?_, ?_⟩
    · rw [hb.cell hga, hcells 16 (by omega), h16]
    · rw [hb.cell hga, hcells 17 (by omega), h17]
    · rw [hb.cell hga, hcells 18 (by omega), hk]
  have HD := Lib.hid (show xs.drop 16 = x16 :: x17 :: k :: xs.drop 19 by rw [h16, h17, hk]; exact drop_16 (by omega))
  have HQ := Lib.hid (hr.take (q := 16) (by omega))
  have HR := Lib.hid hr
  have HL := Lib.hid (show 16 ≤ xs.length by omega)
  have HN := Lib.hid hn
  have HI := Lib.hid hI
  have HX16 := Lib.hid b16
  have HX17 := Lib.hid b17
  have HX18 := Lib.hid b18
  have HMO := Lib.hid (fun w => (show Calls Try.prog 46 #[.agg #[.bool a, .bool b, .bool c, .bool d, .bool e, .bool f]] w (RV (.int .i64 M) w) from hM ▸ most_any a b c d e f w))
  have HLE := Lib.hid (fun w => (show Calls Try.prog 19 #[.int .i64 k] w (RV (.int .i64 l) w) from hl ▸ least_any k w))
  have HLI := Lib.hid (fun w => (show Calls Try.prog 17 #[.agg #[.bool a, .bool b, .bool c, .bool d, .bool e, .bool f], .int .i64 k] w (RV (.int .i64 L) w) from hL ▸ limit_any a b c d e f k w))
  clear hI hr hml hm h16 h17 hn hk hM hl hL hcells b16 b17 b18
  obtain ⟨W0, hW0⟩ : ∃ W0, W0 = pw w a b c d e f := ⟨_, rfl⟩
  have HW := Lib.hid hW0
  have HB := Lib.hid (show Below w.heap.size w W0 by rw [hW0]; exact pw_below w a b c d e f)
  have HS := Lib.hid (show W0.heap.size = w.heap.size + 3 by rw [hW0]; exact pw_size w a b c d e f)
  have HC := Lib.hid (show PC w.heap.size a b c d e f W0 by rw [hW0]; exact PC.start w a b c d e f)
  clear hW0
  go_enter Try.func22, Try.ntmps22
  go_wp2_with fail
  rw [show ((w.alloc (.cells #[.bool a, .bool b, .bool c, .bool d, .bool e, .bool f] 23)).alloc (.cells #[.int .i64 0, .int .i64 0] 28)).alloc (.cells #[.int .i64 0, .int .i64 0, .int .i64 0, .slice none 0 0, .int .i64 0] 38) = W0 from HW.out.symm]
  refine (index_any _ _ _ (HQ.out.below HB.out)).mono ?_
  rintro r w1 ⟨rfl, hb1⟩
  have HB1 := Lib.hid hb1
  have HS1 := Lib.hid hb1.size
  clear hb1
  rw [HI.out]
  go_wp2_with fail
  refine (new_any _ _ _ (HR.out.below (below_then' HB.out HB1.out))).mono ?_
  rintro r w2 ⟨g, rfl, hg, hb2, hrd⟩
  have HG := Lib.hid hg
  have HB2 := Lib.hid hb2
  have HR2 := Lib.hid hrd
  clear hg hb2 hrd
  go_wp2_with fail
  refine (take_any g xs 0 16 (by omega) (by omega) (by omega) _ HR2.out).mono ?_
  rintro r w3 ⟨v3, rfl, hb3, hrd3⟩
  rw [if_pos HL.out, HD.out] at hrd3
  have HB3 := Lib.hid hb3
  have HR3 := Lib.hid hrd3
  clear hb3 hrd3
  go_wp2_with fail
  refine (number_2 g x16 x17 (k :: xs.drop 19) _ (by simp) _ HR3.out).mono ?_
  rintro r w4 ⟨rfl, hb4, hrd4⟩
  have HB4 := Lib.hid hb4
  have HR4 := Lib.hid hrd4
  clear hb4 hrd4
  rw [← HN.out]
  go_wp2_with fail
  refine (number_1 g k (xs.drop 19) _ (by simp) _ HR4.out).mono ?_
  rintro r w5 ⟨rfl, hb5, hrd5⟩
  have HB5 := Lib.hid (show Below W0.heap.size W0 w5 from HB1.out.trans ((HB2.out.mono HS1.out).trans (((HB3.out.trans HB4.out).trans hb5).mono (Nat.le_trans HS1.out HG.out))))
  clear hb5 hrd5
  go_wp2_with fail
  obtain ⟨W1, hW1⟩ : ∃ W1, W1 = w5.alloc (.cells #[.int .i64 n, .int .i64 k] 28) := ⟨_, rfl⟩
  rw [← hW1]
  obtain ⟨P, hP⟩ : ∃ P, P = w5.heap.size := ⟨_, rfl⟩
  rw [← hP]
  have hPS : w.heap.size + 3 ≤ P := by have := HB5.out.size; have := HS.out; omega
  obtain ⟨S, hS⟩ : ∃ S, S = fun w' => Below W1.heap.size W1 w' := ⟨_, rfl⟩
  have hSp : ∀ x, S x → Below W1.heap.size W1 x := by rw [hS]; exact fun _ h => h
  have HX := Lib.hid (show ∀ x1 x2, S x1 → Below x1.heap.size x1 x2 → S x2 from by rw [hS]; exact fun x1 x2 h hb => below_then' h hb)
  have hW0 : ∀ p : Wld S, Below W0.heap.size W0 p.w := fun p => (HB5.out.trans (below_alloc' (Below.refl _ _) HB5.out.size (.cells #[.int .i64 n, .int .i64 k] 28))).trans (by rw [← hW1]; exact (hSp _ p.ok).mono (by rw [hW1]; have := HB5.out.size; simp; omega))
  have HP := Lib.hid hW0
  have hc : ∀ p : Wld S, PC w.heap.size a b c d e f p.w := fun p => HC.out.below (hW0 p) (by have := HS.out; omega)
  have HPC := Lib.hid hc
  have h0 : ∀ p : Wld S, p.w.cell? ⟨P, 0, none⟩ = some (.int .i64 n) := fun p => by rw [(hSp _ p.ok).cell (by rw [hW1, hP]; simp), hW1, World.cell?_alloc_at _ _ _ _ hP]; rfl
  have h1 : ∀ p : Wld S, p.w.cell? ⟨P, 1, none⟩ = some (.int .i64 k) := fun p => by rw [(hSp _ p.ok).cell (by rw [hW1, hP]; simp), hW1, World.cell?_alloc_at _ _ _ _ hP]; rfl
  have g0 : ∀ p : Wld S, p.w.cell? ⟨w.heap.size, 0, none⟩ = some (.bool a) := fun p => (hc p).1.1
  have g1 : ∀ p : Wld S, p.w.cell? ⟨w.heap.size, 1, none⟩ = some (.bool b) := fun p => (hc p).1.2.1
  have g2 : ∀ p : Wld S, p.w.cell? ⟨w.heap.size, 2, none⟩ = some (.bool c) := fun p => (hc p).1.2.2.1
  have g3 : ∀ p : Wld S, p.w.cell? ⟨w.heap.size, 3, none⟩ = some (.bool d) := fun p => (hc p).1.2.2.2.1
  have g4 : ∀ p : Wld S, p.w.cell? ⟨w.heap.size, 4, none⟩ = some (.bool e) := fun p => (hc p).1.2.2.2.2.1
  have g5 : ∀ p : Wld S, p.w.cell? ⟨w.heap.size, 5, none⟩ = some (.bool f) := fun p => (hc p).1.2.2.2.2.2
  have HSW := Lib.hid (show S W1.drew by rw [hS]; exact (Below.refl _ _).drew)
  have HSS := Lib.hid (show ∀ p : Wld S, S p.w.drew by rw [hS]; exact fun p => ((show Below W1.heap.size W1 p.w by have := p.ok; simpa [hS] using this)).drew)
  clear hS hSp hW0 hc hW1 hP
  have hne1 : Nonempty (Wld S) := ⟨⟨_, HSW.out⟩⟩
  refine wp_region_sub S (by kernel_rfl) (by kernel_rfl) (HSW.out) ?_
  repeat (quiet_step (first
      | (go_at_call 46; exact calls_sub HX.out (HMO.out _))
      | (go_at_call 19; exact calls_sub HX.out (HLE.out _))
      | (go_at_call 17; exact calls_sub HX.out (HLI.out _))))
  refine wpQuiet_nil ?_
  intro _ hw'
  obtain ⟨pq, hw''⟩ := hw'
  subst hw''
  go_wp2_with fail
  have HBY := Lib.hid (show ∀ x ∈ ([x16, x17] : List Int), 0 ≤ x ∧ x ≤ 255 from fun x hx => by
    simp at hx
    rcases hx with rfl | rfl
    · exact HX16.out
    · exact HX17.out)
  have HSZ := Lib.hid (show w.heap.size + 3 ≤ pq.w.heap.size by have := (HP.out pq).size; have := HS.out; omega)
  obtain ⟨c16, c17, c18⟩ := HK.out pq.w (below_then' HB.out (HP.out pq))
  have hgp : ga < pq.w.heap.size := by have := HSZ.out; omega
  go_region_with (go_at_call 47; refine (fail_any _ _ _ _ _ _).mono ?_; rintro r w7 ⟨rfl, hb7⟩; have HB7 : Hid (Below pq.w.heap.size pq.w w7) := Lib.hid (by first | exact below_then' (below_alloc (Below.refl _ _).drew _) hb7 | exact below_then' (below_alloc (Below.refl _ _) _) hb7 | exact below_then' (below_alloc (Below.refl _ _) _).drew hb7); have HR7 : Hid (RdB w7 (.slice (some ⟨pq.w.heap.size, 0, none⟩) 2 2) [x16, x17]) := Lib.hid (RdB.below (by first | exact RdB.new _ _ rfl #[.int .u8 x16, .int .u8 x17] [x16, x17] rfl HBY.out (by simp) 2 rfl | exact RdB.drew (RdB.new _ _ rfl #[.int .u8 x16, .int .u8 x17] [x16, x17] rfl HBY.out (by simp) 2 rfl)) hb7); have HCX := Lib.hid ((HPC.out pq).below HB7.out HSZ.out); clear hb7; obtain ⟨⟨p0, p1, p2, p3, p4, p5⟩, ⟨q0, q1⟩, ⟨r0, r1, r2, r3, r4⟩, f1, f2⟩ := HCX.out)
  all_goals go_wp2_with fail
  all_goals refine bodyPost_ret (v := .tuple #[.agg #[.int .i64 0, .int .i64 0], .agg #[.int .i64 4, .int .i64 1, .int .i64 2, .slice (some ⟨pq.w.heap.size, 0, none⟩) 2 2, .int .i64 16]]) (by simp [results, Try.results22, go_sem, *]) rfl ?_
  all_goals exact pp_end _ _ (below_then' HB.out ((HP.out pq).trans (HB7.out.mono (HP.out pq).size))) HR7.out (fun g o e => by injection e with e; injection e with e1 _; have := HSZ.out; omega)

set_option maxRecDepth 100000 in
set_option maxHeartbeats 4000000 in
theorem parse_kind (w : World) (A : Option Addr) (m cap : Nat) (xs : List Int) (hr : RdB w (.slice A m cap) xs) (h19 : 19 ≤ m) (a b c d e f : Bool) (hI : markI (xs.take 16) = -1) (n k x16 x17 : Int) (h16 : x16 = xs.getD 16 0) (h17 : x17 = xs.getD 17 0) (hn : n = x16 * 256 + x17) (hk : k = xs.getD 18 0) (M : Int) (hM : mostK b = M) (l L : Int) (hl : leastK k = l) (hL : limitK b k = L) (hb : ¬ n < 19) (hb2 : ¬ M < n) (hz : l = 0) :
    Calls Try.prog 22 #[.agg #[.bool a, .bool b, .bool c, .bool d, .bool e, .bool f], .slice A m cap] w (PP 0 0 4 1 3 18 [k] w) := by
  obtain ⟨hml, hmc, hcap⟩ := hr.len
  have hm := hr.2.1
  unfold maxB at hm
  have hm' : m ≤ 140737488351232 := by omega
  have hce : (m : Int) ≤ cap := by omega
  have hle : (16 : Int) ≤ m := by omega
  have hle2 : (19 : Int) ≤ m := by omega
  have hle3 : (18 : Int) < m := by omega
  have hle4 : (17 : Int) < m := by omega
  have hle5 : (16 : Int) < m := by omega
  have hce2 : (16 : Int) ≤ cap := by omega
  have hmin : min (m : Int) 16 = 16 := by omega
  have b16 := hr.get (j := 16) (by omega)
  have b17 := hr.get (j := 17) (by omega)
  have b18 := hr.get (j := 18) (by omega)
  rw [← h16] at b16
  rw [← h17] at b17
  rw [← hk] at b18
  have hn0 : 0 ≤ n := by omega
  have hn1 : n ≤ 65535 := by omega
  have hwn : IntKind.i64.wrap n = n := by rw [IntKind.wrap_i64]; omega
  have hwk : IntKind.i64.wrap k = k := by rw [IntKind.wrap_i64]; omega
  obtain ⟨ga, oa, eA, hga, hcells⟩ : ∃ g o, A = some ⟨g, o, none⟩ ∧ g < w.heap.size ∧ ∀ j, j < xs.length → w.cell? ⟨g, o + j, none⟩ = some (.int .u8 (xs.getD j 0)) := by
    obtain ⟨h1, h2, A', c', e, h3, h4, h5⟩ := hr
    injection e with e1 e2 e3
    subst e1
    exact h5 (by omega)
  subst eA
  have HK : Hid (∀ W, Below w.heap.size w W → W.cell? ⟨ga, oa + 16, none⟩ = some (.int .u8 x16) ∧ W.cell? ⟨ga, oa + 17, none⟩ = some (.int .u8 x17) ∧ W.cell? ⟨ga, oa + 18, none⟩ = some (.int .u8 k)) := fun W hb => by
    refine ⟨?_, ?_, ?_⟩
    · rw [hb.cell hga, hcells 16 (by omega), h16]
    · rw [hb.cell hga, hcells 17 (by omega), h17]
    · rw [hb.cell hga, hcells 18 (by omega), hk]
  have HD := Lib.hid (show xs.drop 16 = x16 :: x17 :: k :: xs.drop 19 by rw [h16, h17, hk]; exact drop_16 (by omega))
  have HQ := Lib.hid (hr.take (q := 16) (by omega))
  have HR := Lib.hid hr
  have HL := Lib.hid (show 16 ≤ xs.length by omega)
  have HN := Lib.hid hn
  have HI := Lib.hid hI
  have HX16 := Lib.hid b16
  have HX17 := Lib.hid b17
  have HX18 := Lib.hid b18
  have HMO := Lib.hid (fun w => (show Calls Try.prog 46 #[.agg #[.bool a, .bool b, .bool c, .bool d, .bool e, .bool f]] w (RV (.int .i64 M) w) from hM ▸ most_any a b c d e f w))
  have HLE := Lib.hid (fun w => (show Calls Try.prog 19 #[.int .i64 k] w (RV (.int .i64 l) w) from hl ▸ least_any k w))
  have HLI := Lib.hid (fun w => (show Calls Try.prog 17 #[.agg #[.bool a, .bool b, .bool c, .bool d, .bool e, .bool f], .int .i64 k] w (RV (.int .i64 L) w) from hL ▸ limit_any a b c d e f k w))
  clear hI hr hml hm h16 h17 hn hk hM hl hL hcells b16 b17 b18
  obtain ⟨W0, hW0⟩ : ∃ W0, W0 = pw w a b c d e f := ⟨_, rfl⟩
  have HW := Lib.hid hW0
  have HB := Lib.hid (show Below w.heap.size w W0 by rw [hW0]; exact pw_below w a b c d e f)
  have HS := Lib.hid (show W0.heap.size = w.heap.size + 3 by rw [hW0]; exact pw_size w a b c d e f)
  have HC := Lib.hid (show PC w.heap.size a b c d e f W0 by rw [hW0]; exact PC.start w a b c d e f)
  clear hW0
  have k0 : (l == 0) = true := by simpa using hz
  clear hz
  go_enter Try.func22, Try.ntmps22
  go_wp2_with fail
  rw [show ((w.alloc (.cells #[.bool a, .bool b, .bool c, .bool d, .bool e, .bool f] 23)).alloc (.cells #[.int .i64 0, .int .i64 0] 28)).alloc (.cells #[.int .i64 0, .int .i64 0, .int .i64 0, .slice none 0 0, .int .i64 0] 38) = W0 from HW.out.symm]
  refine (index_any _ _ _ (HQ.out.below HB.out)).mono ?_
  rintro r w1 ⟨rfl, hb1⟩
  have HB1 := Lib.hid hb1
  have HS1 := Lib.hid hb1.size
  clear hb1
  rw [HI.out]
  go_wp2_with fail
  refine (new_any _ _ _ (HR.out.below (below_then' HB.out HB1.out))).mono ?_
  rintro r w2 ⟨g, rfl, hg, hb2, hrd⟩
  have HG := Lib.hid hg
  have HB2 := Lib.hid hb2
  have HR2 := Lib.hid hrd
  clear hg hb2 hrd
  go_wp2_with fail
  refine (take_any g xs 0 16 (by omega) (by omega) (by omega) _ HR2.out).mono ?_
  rintro r w3 ⟨v3, rfl, hb3, hrd3⟩
  rw [if_pos HL.out, HD.out] at hrd3
  have HB3 := Lib.hid hb3
  have HR3 := Lib.hid hrd3
  clear hb3 hrd3
  go_wp2_with fail
  refine (number_2 g x16 x17 (k :: xs.drop 19) _ (by simp) _ HR3.out).mono ?_
  rintro r w4 ⟨rfl, hb4, hrd4⟩
  have HB4 := Lib.hid hb4
  have HR4 := Lib.hid hrd4
  clear hb4 hrd4
  rw [← HN.out]
  go_wp2_with fail
  refine (number_1 g k (xs.drop 19) _ (by simp) _ HR4.out).mono ?_
  rintro r w5 ⟨rfl, hb5, hrd5⟩
  have HB5 := Lib.hid (show Below W0.heap.size W0 w5 from HB1.out.trans ((HB2.out.mono HS1.out).trans (((HB3.out.trans HB4.out).trans hb5).mono (Nat.le_trans HS1.out HG.out))))
  clear hb5 hrd5
  go_wp2_with fail
  obtain ⟨W1, hW1⟩ : ∃ W1, W1 = w5.alloc (.cells #[.int .i64 n, .int .i64 k] 28) := ⟨_, rfl⟩
  rw [← hW1]
  obtain ⟨P, hP⟩ : ∃ P, P = w5.heap.size := ⟨_, rfl⟩
  rw [← hP]
  have hPS : w.heap.size + 3 ≤ P := by have := HB5.out.size; have := HS.out; omega
  obtain ⟨S, hS⟩ : ∃ S, S = fun w' => Below W1.heap.size W1 w' := ⟨_, rfl⟩
  have hSp : ∀ x, S x → Below W1.heap.size W1 x := by rw [hS]; exact fun _ h => h
  have HX := Lib.hid (show ∀ x1 x2, S x1 → Below x1.heap.size x1 x2 → S x2 from by rw [hS]; exact fun x1 x2 h hb => below_then' h hb)
  have hW0 : ∀ p : Wld S, Below W0.heap.size W0 p.w := fun p => (HB5.out.trans (below_alloc' (Below.refl _ _) HB5.out.size (.cells #[.int .i64 n, .int .i64 k] 28))).trans (by rw [← hW1]; exact (hSp _ p.ok).mono (by rw [hW1]; have := HB5.out.size; simp; omega))
  have HP := Lib.hid hW0
  have hc : ∀ p : Wld S, PC w.heap.size a b c d e f p.w := fun p => HC.out.below (hW0 p) (by have := HS.out; omega)
  have HPC := Lib.hid hc
  have h0 : ∀ p : Wld S, p.w.cell? ⟨P, 0, none⟩ = some (.int .i64 n) := fun p => by rw [(hSp _ p.ok).cell (by rw [hW1, hP]; simp), hW1, World.cell?_alloc_at _ _ _ _ hP]; rfl
  have h1 : ∀ p : Wld S, p.w.cell? ⟨P, 1, none⟩ = some (.int .i64 k) := fun p => by rw [(hSp _ p.ok).cell (by rw [hW1, hP]; simp), hW1, World.cell?_alloc_at _ _ _ _ hP]; rfl
  have g0 : ∀ p : Wld S, p.w.cell? ⟨w.heap.size, 0, none⟩ = some (.bool a) := fun p => (hc p).1.1
  have g1 : ∀ p : Wld S, p.w.cell? ⟨w.heap.size, 1, none⟩ = some (.bool b) := fun p => (hc p).1.2.1
  have g2 : ∀ p : Wld S, p.w.cell? ⟨w.heap.size, 2, none⟩ = some (.bool c) := fun p => (hc p).1.2.2.1
  have g3 : ∀ p : Wld S, p.w.cell? ⟨w.heap.size, 3, none⟩ = some (.bool d) := fun p => (hc p).1.2.2.2.1
  have g4 : ∀ p : Wld S, p.w.cell? ⟨w.heap.size, 4, none⟩ = some (.bool e) := fun p => (hc p).1.2.2.2.2.1
  have g5 : ∀ p : Wld S, p.w.cell? ⟨w.heap.size, 5, none⟩ = some (.bool f) := fun p => (hc p).1.2.2.2.2.2
  have HSW := Lib.hid (show S W1.drew by rw [hS]; exact (Below.refl _ _).drew)
  have HSS := Lib.hid (show ∀ p : Wld S, S p.w.drew by rw [hS]; exact fun p => ((show Below W1.heap.size W1 p.w by have := p.ok; simpa [hS] using this)).drew)
  clear hS hSp hW0 hc hW1 hP
  have hne1 : Nonempty (Wld S) := ⟨⟨_, HSW.out⟩⟩
  refine wp_region_sub S (by kernel_rfl) (by kernel_rfl) (HSW.out) ?_
  repeat (quiet_step (first
      | (go_at_call 46; exact calls_sub HX.out (HMO.out _))
      | (go_at_call 19; exact calls_sub HX.out (HLE.out _))
      | (go_at_call 17; exact calls_sub HX.out (HLI.out _))))
  refine wpQuiet_nil ?_
  intro _ hw'
  obtain ⟨pq, hw''⟩ := hw'
  subst hw''
  go_wp2_with fail
  refine (HLE.out _).mono ?_
  rintro r w6 ⟨rfl, hb6⟩
  obtain ⟨pr, hpr⟩ : ∃ p : Wld S, p.w = w6 := ⟨⟨w6, HX.out _ _ pq.ok hb6⟩, rfl⟩
  subst hpr
  clear hb6
  have HBY := Lib.hid (show ∀ x ∈ ([k] : List Int), 0 ≤ x ∧ x ≤ 255 from fun x hx => by
    simp at hx
    subst hx; exact HX18.out)
  have HSZ := Lib.hid (show w.heap.size + 3 ≤ pr.w.heap.size by have := (HP.out pr).size; have := HS.out; omega)
  obtain ⟨c16, c17, c18⟩ := HK.out pr.w (below_then' HB.out (HP.out pr))
  have hgp : ga < pr.w.heap.size := by have := HSZ.out; omega
  go_wp2_with (go_at_call 47; refine (fail_any _ _ _ _ _ _).mono ?_; rintro r w7 ⟨rfl, hb7⟩; have HB7 : Hid (Below pr.w.heap.size pr.w w7) := Lib.hid (by first | exact below_then' (below_alloc (Below.refl _ _).drew _) hb7 | exact below_then' (below_alloc (Below.refl _ _) _) hb7 | exact below_then' (below_alloc (Below.refl _ _) _).drew hb7); have HR7 : Hid (RdB w7 (.slice (some ⟨pr.w.heap.size, 0, none⟩) 1 1) [k]) := Lib.hid (RdB.below (by first | exact RdB.new _ _ rfl #[.int .u8 k] [k] rfl HBY.out (by simp) 1 rfl | exact RdB.drew (RdB.new _ _ rfl #[.int .u8 k] [k] rfl HBY.out (by simp) 1 rfl)) hb7); have HCX := Lib.hid ((HPC.out pr).below HB7.out HSZ.out); clear hb7; obtain ⟨⟨p0, p1, p2, p3, p4, p5⟩, ⟨q0, q1⟩, ⟨r0, r1, r2, r3, r4⟩, f1, f2⟩ := HCX.out)
  all_goals go_wp2_with fail
  all_goals refine bodyPost_ret (v := .tuple #[.agg #[.int .i64 0, .int .i64 0], .agg #[.int .i64 4, .int .i64 1, .int .i64 3, .slice (some ⟨pr.w.heap.size, 0, none⟩) 1 1, .int .i64 18]]) (by simp [results, Try.results22, go_sem, *]) rfl ?_
  all_goals exact pp_end _ _ (below_then' HB.out ((HP.out pr).trans (HB7.out.mono (HP.out pr).size))) HR7.out (fun g o e => by injection e with e; injection e with e1 _; have := HSZ.out; omega)

set_option maxRecDepth 100000 in
set_option maxHeartbeats 4000000 in
theorem parse_l2a (w : World) (A : Option Addr) (m cap : Nat) (xs : List Int) (hr : RdB w (.slice A m cap) xs) (h19 : 19 ≤ m) (a b c d e f : Bool) (hI : markI (xs.take 16) = -1) (n k x16 x17 : Int) (h16 : x16 = xs.getD 16 0) (h17 : x17 = xs.getD 17 0) (hn : n = x16 * 256 + x17) (hk : k = xs.getD 18 0) (M : Int) (hM : mostK b = M) (l L : Int) (hl : leastK k = l) (hL : limitK b k = L) (hb : ¬ n < 19) (hb2 : ¬ M < n) (hz : ¬ l = 0) (h3 : n < l) :
    Calls Try.prog 22 #[.agg #[.bool a, .bool b, .bool c, .bool d, .bool e, .bool f], .slice A m cap] w (PP 0 0 4 1 2 16 [x16, x17] w) := by
  obtain ⟨hml, hmc, hcap⟩ := hr.len
  have hm := hr.2.1
  unfold maxB at hm
  have hm' : m ≤ 140737488351232 := by omega
  have hce : (m : Int) ≤ cap := by omega
  have hle : (16 : Int) ≤ m := by omega
  have hle2 : (19 : Int) ≤ m := by omega
  have hle3 : (18 : Int) < m := by omega
  have hle4 : (17 : Int) < m := by omega
  have hle5 : (16 : Int) < m := by omega
  have hce2 : (16 : Int) ≤ cap := by omega
  have hmin : min (m : Int) 16 = 16 := by omega
  have b16 := hr.get (j := 16) (by omega)
  have b17 := hr.get (j := 17) (by omega)
  have b18 := hr.get (j := 18) (by omega)
  rw [← h16] at b16
  rw [← h17] at b17
  rw [← hk] at b18
  have hn0 : 0 ≤ n := by omega
  have hn1 : n ≤ 65535 := by omega
  have hwn : IntKind.i64.wrap n = n := by rw [IntKind.wrap_i64]; omega
  have hwk : IntKind.i64.wrap k = k := by rw [IntKind.wrap_i64]; omega
  obtain ⟨ga, oa, eA, hga, hcells⟩ : ∃ g o, A = some ⟨g, o, none⟩ ∧ g < w.heap.size ∧ ∀ j, j < xs.length → w.cell? ⟨g, o + j, none⟩ = some (.int .u8 (xs.getD j 0)) := by
    obtain ⟨h1, h2, A', c', e, h3, h4, h5⟩ := hr
    injection e with e1 e2 e3
    subst e1
    exact h5 (by omega)
  subst eA
  have HK : Hid (∀ W, Below w.heap.size w W → W.cell? ⟨ga, oa + 16, none⟩ = some (.int .u8 x16) ∧ W.cell? ⟨ga, oa + 17, none⟩ = some (.int .u8 x17) ∧ W.cell? ⟨ga, oa + 18, none⟩ = some (.int .u8 k)) := fun W hb => by
    refine ⟨?_, ?_, ?_⟩
    · rw [hb.cell hga, hcells 16 (by omega), h16]
    · rw [hb.cell hga, hcells 17 (by omega), h17]
    · rw [hb.cell hga, hcells 18 (by omega), hk]
  have HD := Lib.hid (show xs.drop 16 = x16 :: x17 :: k :: xs.drop 19 by rw [h16, h17, hk]; exact drop_16 (by omega))
  have HQ := Lib.hid (hr.take (q := 16) (by omega))
  have HR := Lib.hid hr
  have HL := Lib.hid (show 16 ≤ xs.length by omega)
  have HN := Lib.hid hn
  have HI := Lib.hid hI
  have HX16 := Lib.hid b16
  have HX17 := Lib.hid b17
  have HX18 := Lib.hid b18
  have HMO := Lib.hid (fun w => (show Calls Try.prog 46 #[.agg #[.bool a, .bool b, .bool c, .bool d, .bool e, .bool f]] w (RV (.int .i64 M) w) from hM ▸ most_any a b c d e f w))
  have HLE := Lib.hid (fun w => (show Calls Try.prog 19 #[.int .i64 k] w (RV (.int .i64 l) w) from hl ▸ least_any k w))
  have HLI := Lib.hid (fun w => (show Calls Try.prog 17 #[.agg #[.bool a, .bool b, .bool c, .bool d, .bool e, .bool f], .int .i64 k] w (RV (.int .i64 L) w) from hL ▸ limit_any a b c d e f k w))
  clear hI hr hml hm h16 h17 hn hk hM hl hL hcells b16 b17 b18
  obtain ⟨W0, hW0⟩ : ∃ W0, W0 = pw w a b c d e f := ⟨_, rfl⟩
  have HW := Lib.hid hW0
  have HB := Lib.hid (show Below w.heap.size w W0 by rw [hW0]; exact pw_below w a b c d e f)
  have HS := Lib.hid (show W0.heap.size = w.heap.size + 3 by rw [hW0]; exact pw_size w a b c d e f)
  have HC := Lib.hid (show PC w.heap.size a b c d e f W0 by rw [hW0]; exact PC.start w a b c d e f)
  clear hW0
  have k0 : (l == 0) = false := by simpa using hz
  clear hz
  go_enter Try.func22, Try.ntmps22
  go_wp2_with fail
  rw [show ((w.alloc (.cells #[.bool a, .bool b, .bool c, .bool d, .bool e, .bool f] 23)).alloc (.cells #[.int .i64 0, .int .i64 0] 28)).alloc (.cells #[.int .i64 0, .int .i64 0, .int .i64 0, .slice none 0 0, .int .i64 0] 38) = W0 from HW.out.symm]
  refine (index_any _ _ _ (HQ.out.below HB.out)).mono ?_
  rintro r w1 ⟨rfl, hb1⟩
  have HB1 := Lib.hid hb1
  have HS1 := Lib.hid hb1.size
  clear hb1
  rw [HI.out]
  go_wp2_with fail
  refine (new_any _ _ _ (HR.out.below (below_then' HB.out HB1.out))).mono ?_
  rintro r w2 ⟨g, rfl, hg, hb2, hrd⟩
  have HG := Lib.hid hg
  have HB2 := Lib.hid hb2
  have HR2 := Lib.hid hrd
  clear hg hb2 hrd
  go_wp2_with fail
  refine (take_any g xs 0 16 (by omega) (by omega) (by omega) _ HR2.out).mono ?_
  rintro r w3 ⟨v3, rfl, hb3, hrd3⟩
  rw [if_pos HL.out, HD.out] at hrd3
  have HB3 := Lib.hid hb3
  have HR3 := Lib.hid hrd3
  clear hb3 hrd3
  go_wp2_with fail
  refine (number_2 g x16 x17 (k :: xs.drop 19) _ (by simp) _ HR3.out).mono ?_
  rintro r w4 ⟨rfl, hb4, hrd4⟩
  have HB4 := Lib.hid hb4
  have HR4 := Lib.hid hrd4
  clear hb4 hrd4
  rw [← HN.out]
  go_wp2_with fail
  refine (number_1 g k (xs.drop 19) _ (by simp) _ HR4.out).mono ?_
  rintro r w5 ⟨rfl, hb5, hrd5⟩
  have HB5 := Lib.hid (show Below W0.heap.size W0 w5 from HB1.out.trans ((HB2.out.mono HS1.out).trans (((HB3.out.trans HB4.out).trans hb5).mono (Nat.le_trans HS1.out HG.out))))
  clear hb5 hrd5
  go_wp2_with fail
  obtain ⟨W1, hW1⟩ : ∃ W1, W1 = w5.alloc (.cells #[.int .i64 n, .int .i64 k] 28) := ⟨_, rfl⟩
  rw [← hW1]
  obtain ⟨P, hP⟩ : ∃ P, P = w5.heap.size := ⟨_, rfl⟩
  rw [← hP]
  have hPS : w.heap.size + 3 ≤ P := by have := HB5.out.size; have := HS.out; omega
  obtain ⟨S, hS⟩ : ∃ S, S = fun w' => Below W1.heap.size W1 w' := ⟨_, rfl⟩
  have hSp : ∀ x, S x → Below W1.heap.size W1 x := by rw [hS]; exact fun _ h => h
  have HX := Lib.hid (show ∀ x1 x2, S x1 → Below x1.heap.size x1 x2 → S x2 from by rw [hS]; exact fun x1 x2 h hb => below_then' h hb)
  have hW0 : ∀ p : Wld S, Below W0.heap.size W0 p.w := fun p => (HB5.out.trans (below_alloc' (Below.refl _ _) HB5.out.size (.cells #[.int .i64 n, .int .i64 k] 28))).trans (by rw [← hW1]; exact (hSp _ p.ok).mono (by rw [hW1]; have := HB5.out.size; simp; omega))
  have HP := Lib.hid hW0
  have hc : ∀ p : Wld S, PC w.heap.size a b c d e f p.w := fun p => HC.out.below (hW0 p) (by have := HS.out; omega)
  have HPC := Lib.hid hc
  have h0 : ∀ p : Wld S, p.w.cell? ⟨P, 0, none⟩ = some (.int .i64 n) := fun p => by rw [(hSp _ p.ok).cell (by rw [hW1, hP]; simp), hW1, World.cell?_alloc_at _ _ _ _ hP]; rfl
  have h1 : ∀ p : Wld S, p.w.cell? ⟨P, 1, none⟩ = some (.int .i64 k) := fun p => by rw [(hSp _ p.ok).cell (by rw [hW1, hP]; simp), hW1, World.cell?_alloc_at _ _ _ _ hP]; rfl
  have g0 : ∀ p : Wld S, p.w.cell? ⟨w.heap.size, 0, none⟩ = some (.bool a) := fun p => (hc p).1.1
  have g1 : ∀ p : Wld S, p.w.cell? ⟨w.heap.size, 1, none⟩ = some (.bool b) := fun p => (hc p).1.2.1
  have g2 : ∀ p : Wld S, p.w.cell? ⟨w.heap.size, 2, none⟩ = some (.bool c) := fun p => (hc p).1.2.2.1
  have g3 : ∀ p : Wld S, p.w.cell? ⟨w.heap.size, 3, none⟩ = some (.bool d) := fun p => (hc p).1.2.2.2.1
  have g4 : ∀ p : Wld S, p.w.cell? ⟨w.heap.size, 4, none⟩ = some (.bool e) := fun p => (hc p).1.2.2.2.2.1
  have g5 : ∀ p : Wld S, p.w.cell? ⟨w.heap.size, 5, none⟩ = some (.bool f) := fun p => (hc p).1.2.2.2.2.2
  have HSW := Lib.hid (show S W1.drew by rw [hS]; exact (Below.refl _ _).drew)
  have HSS := Lib.hid (show ∀ p : Wld S, S p.w.drew by rw [hS]; exact fun p => ((show Below W1.heap.size W1 p.w by have := p.ok; simpa [hS] using this)).drew)
  clear hS hSp hW0 hc hW1 hP
  have hne1 : Nonempty (Wld S) := ⟨⟨_, HSW.out⟩⟩
  refine wp_region_sub S (by kernel_rfl) (by kernel_rfl) (HSW.out) ?_
  repeat (quiet_step (first
      | (go_at_call 46; exact calls_sub HX.out (HMO.out _))
      | (go_at_call 19; exact calls_sub HX.out (HLE.out _))
      | (go_at_call 17; exact calls_sub HX.out (HLI.out _))))
  refine wpQuiet_nil ?_
  intro _ hw'
  obtain ⟨pq, hw''⟩ := hw'
  subst hw''
  go_wp2_with fail
  refine (HLE.out _).mono ?_
  rintro r w6 ⟨rfl, hb6⟩
  obtain ⟨pr, hpr⟩ : ∃ p : Wld S, p.w = w6 := ⟨⟨w6, HX.out _ _ pq.ok hb6⟩, rfl⟩
  subst hpr
  clear hb6
  go_wp2_with fail
  have hne2b : Nonempty (Wld S) := ⟨⟨_, HSS.out pr⟩⟩
  refine wp_region_sub S (by kernel_rfl) (by kernel_rfl) (HSS.out pr) ?_
  repeat (go_big_quiet_step (first
      | (go_at_call 46; exact calls_sub HX.out (HMO.out _))
      | (go_at_call 19; exact calls_sub HX.out (HLE.out _))
      | (go_at_call 17; exact calls_sub HX.out (HLI.out _))))
  refine wpQuiet_nil ?_
  intro _ hw'
  obtain ⟨ps, hw''⟩ := hw'
  subst hw''
  go_wp2_with fail
  have HBY := Lib.hid (show ∀ x ∈ ([x16, x17] : List Int), 0 ≤ x ∧ x ≤ 255 from fun x hx => by
    simp at hx
    rcases hx with rfl | rfl
    · exact HX16.out
    · exact HX17.out)
  have HSZ := Lib.hid (show w.heap.size + 3 ≤ ps.w.heap.size by have := (HP.out ps).size; have := HS.out; omega)
  obtain ⟨c16, c17, c18⟩ := HK.out ps.w (below_then' HB.out (HP.out ps))
  have hgp : ga < ps.w.heap.size := by have := HSZ.out; omega
  go_region_with (go_at_call 47; refine (fail_any _ _ _ _ _ _).mono ?_; rintro r w7 ⟨rfl, hb7⟩; have HB7 : Hid (Below ps.w.heap.size ps.w w7) := Lib.hid (by first | exact below_then' (below_alloc (Below.refl _ _).drew _) hb7 | exact below_then' (below_alloc (Below.refl _ _) _) hb7 | exact below_then' (below_alloc (Below.refl _ _) _).drew hb7); have HR7 : Hid (RdB w7 (.slice (some ⟨ps.w.heap.size, 0, none⟩) 2 2) [x16, x17]) := Lib.hid (RdB.below (by first | exact RdB.new _ _ rfl #[.int .u8 x16, .int .u8 x17] [x16, x17] rfl HBY.out (by simp) 2 rfl | exact RdB.drew (RdB.new _ _ rfl #[.int .u8 x16, .int .u8 x17] [x16, x17] rfl HBY.out (by simp) 2 rfl)) hb7); have HCX := Lib.hid ((HPC.out ps).below HB7.out HSZ.out); clear hb7; obtain ⟨⟨p0, p1, p2, p3, p4, p5⟩, ⟨q0, q1⟩, ⟨r0, r1, r2, r3, r4⟩, f1, f2⟩ := HCX.out)
  all_goals go_wp2_with fail
  all_goals refine bodyPost_ret (v := .tuple #[.agg #[.int .i64 0, .int .i64 0], .agg #[.int .i64 4, .int .i64 1, .int .i64 2, .slice (some ⟨ps.w.heap.size, 0, none⟩) 2 2, .int .i64 16]]) (by simp [results, Try.results22, go_sem, *]) rfl ?_
  all_goals exact pp_end _ _ (below_then' HB.out ((HP.out ps).trans (HB7.out.mono (HP.out ps).size))) HR7.out (fun g o e => by injection e with e; injection e with e1 _; have := HSZ.out; omega)

set_option maxRecDepth 100000 in
set_option maxHeartbeats 4000000 in
theorem parse_l2b (w : World) (A : Option Addr) (m cap : Nat) (xs : List Int) (hr : RdB w (.slice A m cap) xs) (h19 : 19 ≤ m) (a b c d e f : Bool) (hI : markI (xs.take 16) = -1) (n k x16 x17 : Int) (h16 : x16 = xs.getD 16 0) (h17 : x17 = xs.getD 17 0) (hn : n = x16 * 256 + x17) (hk : k = xs.getD 18 0) (M : Int) (hM : mostK b = M) (l L : Int) (hl : leastK k = l) (hL : limitK b k = L) (hb : ¬ n < 19) (hb2 : ¬ M < n) (hz : ¬ l = 0) (h3 : ¬ n < l) (h4 : L < n) :
    Calls Try.prog 22 #[.agg #[.bool a, .bool b, .bool c, .bool d, .bool e, .bool f], .slice A m cap] w (PP 0 0 4 1 2 16 [x16, x17] w) := by
  obtain ⟨hml, hmc, hcap⟩ := hr.len
  have hm := hr.2.1
  unfold maxB at hm
  have hm' : m ≤ 140737488351232 := by omega
  have hce : (m : Int) ≤ cap := by omega
  have hle : (16 : Int) ≤ m := by omega
  have hle2 : (19 : Int) ≤ m := by omega
  have hle3 : (18 : Int) < m := by omega
  have hle4 : (17 : Int) < m := by omega
  have hle5 : (16 : Int) < m := by omega
  have hce2 : (16 : Int) ≤ cap := by omega
  have hmin : min (m : Int) 16 = 16 := by omega
  have b16 := hr.get (j := 16) (by omega)
  have b17 := hr.get (j := 17) (by omega)
  have b18 := hr.get (j := 18) (by omega)
  rw [← h16] at b16
  rw [← h17] at b17
  rw [← hk] at b18
  have hn0 : 0 ≤ n := by omega
  have hn1 : n ≤ 65535 := by omega
  have hwn : IntKind.i64.wrap n = n := by rw [IntKind.wrap_i64]; omega
  have hwk : IntKind.i64.wrap k = k := by rw [IntKind.wrap_i64]; omega
  obtain ⟨ga, oa, eA, hga, hcells⟩ : ∃ g o, A = some ⟨g, o, none⟩ ∧ g < w.heap.size ∧ ∀ j, j < xs.length → w.cell? ⟨g, o + j, none⟩ = some (.int .u8 (xs.getD j 0)) := by
    obtain ⟨h1, h2, A', c', e, h3, h4, h5⟩ := hr
    injection e with e1 e2 e3
    subst e1
    exact h5 (by omega)
  subst eA
  have HK : Hid (∀ W, Below w.heap.size w W → W.cell? ⟨ga, oa + 16, none⟩ = some (.int .u8 x16) ∧ W.cell? ⟨ga, oa + 17, none⟩ = some (.int .u8 x17) ∧ W.cell? ⟨ga, oa + 18, none⟩ = some (.int .u8 k)) := fun W hb => by
    refine ⟨?_, ?_, ?_⟩
    · rw [hb.cell hga, hcells 16 (by omega), h16]
    · rw [hb.cell hga, hcells 17 (by omega), h17]
    · rw [hb.cell hga, hcells 18 (by omega), hk]
  have HD := Lib.hid (show xs.drop 16 = x16 :: x17 :: k :: xs.drop 19 by rw [h16, h17, hk]; exact drop_16 (by omega))
  have HQ := Lib.hid (hr.take (q := 16) (by omega))
  have HR := Lib.hid hr
  have HL := Lib.hid (show 16 ≤ xs.length by omega)
  have HN := Lib.hid hn
  have HI := Lib.hid hI
  have HX16 := Lib.hid b16
  have HX17 := Lib.hid b17
  have HX18 := Lib.hid b18
  have HMO := Lib.hid (fun w => (show Calls Try.prog 46 #[.agg #[.bool a, .bool b, .bool c, .bool d, .bool e, .bool f]] w (RV (.int .i64 M) w) from hM ▸ most_any a b c d e f w))
  have HLE := Lib.hid (fun w => (show Calls Try.prog 19 #[.int .i64 k] w (RV (.int .i64 l) w) from hl ▸ least_any k w))
  have HLI := Lib.hid (fun w => (show Calls Try.prog 17 #[.agg #[.bool a, .bool b, .bool c, .bool d, .bool e, .bool f], .int .i64 k] w (RV (.int .i64 L) w) from hL ▸ limit_any a b c d e f k w))
  clear hI hr hml hm h16 h17 hn hk hM hl hL hcells b16 b17 b18
  obtain ⟨W0, hW0⟩ : ∃ W0, W0 = pw w a b c d e f := ⟨_, rfl⟩
  have HW := Lib.hid hW0
  have HB := Lib.hid (show Below w.heap.size w W0 by rw [hW0]; exact pw_below w a b c d e f)
  have HS := Lib.hid (show W0.heap.size = w.heap.size + 3 by rw [hW0]; exact pw_size w a b c d e f)
  have HC := Lib.hid (show PC w.heap.size a b c d e f W0 by rw [hW0]; exact PC.start w a b c d e f)
  clear hW0
  have k0 : (l == 0) = false := by simpa using hz
  clear hz
  go_enter Try.func22, Try.ntmps22
  go_wp2_with fail
  rw [show ((w.alloc (.cells #[.bool a, .bool b, .bool c, .bool d, .bool e, .bool f] 23)).alloc (.cells #[.int .i64 0, .int .i64 0] 28)).alloc (.cells #[.int .i64 0, .int .i64 0, .int .i64 0, .slice none 0 0, .int .i64 0] 38) = W0 from HW.out.symm]
  refine (index_any _ _ _ (HQ.out.below HB.out)).mono ?_
  rintro r w1 ⟨rfl, hb1⟩
  have HB1 := Lib.hid hb1
  have HS1 := Lib.hid hb1.size
  clear hb1
  rw [HI.out]
  go_wp2_with fail
  refine (new_any _ _ _ (HR.out.below (below_then' HB.out HB1.out))).mono ?_
  rintro r w2 ⟨g, rfl, hg, hb2, hrd⟩
  have HG := Lib.hid hg
  have HB2 := Lib.hid hb2
  have HR2 := Lib.hid hrd
  clear hg hb2 hrd
  go_wp2_with fail
  refine (take_any g xs 0 16 (by omega) (by omega) (by omega) _ HR2.out).mono ?_
  rintro r w3 ⟨v3, rfl, hb3, hrd3⟩
  rw [if_pos HL.out, HD.out] at hrd3
  have HB3 := Lib.hid hb3
  have HR3 := Lib.hid hrd3
  clear hb3 hrd3
  go_wp2_with fail
  refine (number_2 g x16 x17 (k :: xs.drop 19) _ (by simp) _ HR3.out).mono ?_
  rintro r w4 ⟨rfl, hb4, hrd4⟩
  have HB4 := Lib.hid hb4
  have HR4 := Lib.hid hrd4
  clear hb4 hrd4
  rw [← HN.out]
  go_wp2_with fail
  refine (number_1 g k (xs.drop 19) _ (by simp) _ HR4.out).mono ?_
  rintro r w5 ⟨rfl, hb5, hrd5⟩
  have HB5 := Lib.hid (show Below W0.heap.size W0 w5 from HB1.out.trans ((HB2.out.mono HS1.out).trans (((HB3.out.trans HB4.out).trans hb5).mono (Nat.le_trans HS1.out HG.out))))
  clear hb5 hrd5
  go_wp2_with fail
  obtain ⟨W1, hW1⟩ : ∃ W1, W1 = w5.alloc (.cells #[.int .i64 n, .int .i64 k] 28) := ⟨_, rfl⟩
  rw [← hW1]
  obtain ⟨P, hP⟩ : ∃ P, P = w5.heap.size := ⟨_, rfl⟩
  rw [← hP]
  have hPS : w.heap.size + 3 ≤ P := by have := HB5.out.size; have := HS.out; omega
  obtain ⟨S, hS⟩ : ∃ S, S = fun w' => Below W1.heap.size W1 w' := ⟨_, rfl⟩
  have hSp : ∀ x, S x → Below W1.heap.size W1 x := by rw [hS]; exact fun _ h => h
  have HX := Lib.hid (show ∀ x1 x2, S x1 → Below x1.heap.size x1 x2 → S x2 from by rw [hS]; exact fun x1 x2 h hb => below_then' h hb)
  have hW0 : ∀ p : Wld S, Below W0.heap.size W0 p.w := fun p => (HB5.out.trans (below_alloc' (Below.refl _ _) HB5.out.size (.cells #[.int .i64 n, .int .i64 k] 28))).trans (by rw [← hW1]; exact (hSp _ p.ok).mono (by rw [hW1]; have := HB5.out.size; simp; omega))
  have HP := Lib.hid hW0
  have hc : ∀ p : Wld S, PC w.heap.size a b c d e f p.w := fun p => HC.out.below (hW0 p) (by have := HS.out; omega)
  have HPC := Lib.hid hc
  have h0 : ∀ p : Wld S, p.w.cell? ⟨P, 0, none⟩ = some (.int .i64 n) := fun p => by rw [(hSp _ p.ok).cell (by rw [hW1, hP]; simp), hW1, World.cell?_alloc_at _ _ _ _ hP]; rfl
  have h1 : ∀ p : Wld S, p.w.cell? ⟨P, 1, none⟩ = some (.int .i64 k) := fun p => by rw [(hSp _ p.ok).cell (by rw [hW1, hP]; simp), hW1, World.cell?_alloc_at _ _ _ _ hP]; rfl
  have g0 : ∀ p : Wld S, p.w.cell? ⟨w.heap.size, 0, none⟩ = some (.bool a) := fun p => (hc p).1.1
  have g1 : ∀ p : Wld S, p.w.cell? ⟨w.heap.size, 1, none⟩ = some (.bool b) := fun p => (hc p).1.2.1
  have g2 : ∀ p : Wld S, p.w.cell? ⟨w.heap.size, 2, none⟩ = some (.bool c) := fun p => (hc p).1.2.2.1
  have g3 : ∀ p : Wld S, p.w.cell? ⟨w.heap.size, 3, none⟩ = some (.bool d) := fun p => (hc p).1.2.2.2.1
  have g4 : ∀ p : Wld S, p.w.cell? ⟨w.heap.size, 4, none⟩ = some (.bool e) := fun p => (hc p).1.2.2.2.2.1
  have g5 : ∀ p : Wld S, p.w.cell? ⟨w.heap.size, 5, none⟩ = some (.bool f) := fun p => (hc p).1.2.2.2.2.2
  have HSW := Lib.hid (show S W1.drew by rw [hS]; exact (Below.refl _ _).drew)
  have HSS := Lib.hid (show ∀ p : Wld S, S p.w.drew by rw [hS]; exact fun p => ((show Below W1.heap.size W1 p.w by have := p.ok; simpa [hS] using this)).drew)
  clear hS hSp hW0 hc hW1 hP
  have hne1 : Nonempty (Wld S) := ⟨⟨_, HSW.out⟩⟩
  refine wp_region_sub S (by kernel_rfl) (by kernel_rfl) (HSW.out) ?_
  repeat (quiet_step (first
      | (go_at_call 46; exact calls_sub HX.out (HMO.out _))
      | (go_at_call 19; exact calls_sub HX.out (HLE.out _))
      | (go_at_call 17; exact calls_sub HX.out (HLI.out _))))
  refine wpQuiet_nil ?_
  intro _ hw'
  obtain ⟨pq, hw''⟩ := hw'
  subst hw''
  go_wp2_with fail
  refine (HLE.out _).mono ?_
  rintro r w6 ⟨rfl, hb6⟩
  obtain ⟨pr, hpr⟩ : ∃ p : Wld S, p.w = w6 := ⟨⟨w6, HX.out _ _ pq.ok hb6⟩, rfl⟩
  subst hpr
  clear hb6
  go_wp2_with fail
  have hne2 : Nonempty (Wld S) := ⟨⟨_, HSS.out pr⟩⟩
  refine wp_region_sub S (by kernel_rfl) (by kernel_rfl) (HSS.out pr) ?_
  repeat (quiet_step (first
      | (go_at_call 46; exact calls_sub HX.out (HMO.out _))
      | (go_at_call 19; exact calls_sub HX.out (HLE.out _))
      | (go_at_call 17; exact calls_sub HX.out (HLI.out _))))
  refine wpQuiet_nil ?_
  intro _ hw'
  obtain ⟨ps, hw''⟩ := hw'
  subst hw''
  go_wp2_with fail
  have HBY := Lib.hid (show ∀ x ∈ ([x16, x17] : List Int), 0 ≤ x ∧ x ≤ 255 from fun x hx => by
    simp at hx
    rcases hx with rfl | rfl
    · exact HX16.out
    · exact HX17.out)
  have HSZ := Lib.hid (show w.heap.size + 3 ≤ ps.w.heap.size by have := (HP.out ps).size; have := HS.out; omega)
  obtain ⟨c16, c17, c18⟩ := HK.out ps.w (below_then' HB.out (HP.out ps))
  have hgp : ga < ps.w.heap.size := by have := HSZ.out; omega
  go_region_with (go_at_call 47; refine (fail_any _ _ _ _ _ _).mono ?_; rintro r w7 ⟨rfl, hb7⟩; have HB7 : Hid (Below ps.w.heap.size ps.w w7) := Lib.hid (by first | exact below_then' (below_alloc (Below.refl _ _).drew _) hb7 | exact below_then' (below_alloc (Below.refl _ _) _) hb7 | exact below_then' (below_alloc (Below.refl _ _) _).drew hb7); have HR7 : Hid (RdB w7 (.slice (some ⟨ps.w.heap.size, 0, none⟩) 2 2) [x16, x17]) := Lib.hid (RdB.below (by first | exact RdB.new _ _ rfl #[.int .u8 x16, .int .u8 x17] [x16, x17] rfl HBY.out (by simp) 2 rfl | exact RdB.drew (RdB.new _ _ rfl #[.int .u8 x16, .int .u8 x17] [x16, x17] rfl HBY.out (by simp) 2 rfl)) hb7); have HCX := Lib.hid ((HPC.out ps).below HB7.out HSZ.out); clear hb7; obtain ⟨⟨p0, p1, p2, p3, p4, p5⟩, ⟨q0, q1⟩, ⟨r0, r1, r2, r3, r4⟩, f1, f2⟩ := HCX.out)
  all_goals go_wp2_with fail
  all_goals refine bodyPost_ret (v := .tuple #[.agg #[.int .i64 0, .int .i64 0], .agg #[.int .i64 4, .int .i64 1, .int .i64 2, .slice (some ⟨ps.w.heap.size, 0, none⟩) 2 2, .int .i64 16]]) (by simp [results, Try.results22, go_sem, *]) rfl ?_
  all_goals exact pp_end _ _ (below_then' HB.out ((HP.out ps).trans (HB7.out.mono (HP.out ps).size))) HR7.out (fun g o e => by injection e with e; injection e with e1 _; have := HSZ.out; omega)

set_option maxRecDepth 100000 in
set_option maxHeartbeats 4000000 in
theorem parse_ok (w : World) (A : Option Addr) (m cap : Nat) (xs : List Int) (hr : RdB w (.slice A m cap) xs) (h19 : 19 ≤ m) (a b c d e f : Bool) (hI : markI (xs.take 16) = -1) (n k x16 x17 : Int) (h16 : x16 = xs.getD 16 0) (h17 : x17 = xs.getD 17 0) (hn : n = x16 * 256 + x17) (hk : k = xs.getD 18 0) (M : Int) (hM : mostK b = M) (l L : Int) (hl : leastK k = l) (hL : limitK b k = L) (hb : ¬ n < 19) (hb2 : ¬ M < n) (hz : ¬ l = 0) (h3 : ¬ n < l) (h4 : ¬ L < n) :
    Calls Try.prog 22 #[.agg #[.bool a, .bool b, .bool c, .bool d, .bool e, .bool f], .slice A m cap] w (PP n k 0 0 0 0 [] w) := by
  obtain ⟨hml, hmc, hcap⟩ := hr.len
  have hm := hr.2.1
  unfold maxB at hm
  have hm' : m ≤ 140737488351232 := by omega
  have hce : (m : Int) ≤ cap := by omega
  have hle : (16 : Int) ≤ m := by omega
  have hle2 : (19 : Int) ≤ m := by omega
  have hle3 : (18 : Int) < m := by omega
  have hle4 : (17 : Int) < m := by omega
  have hle5 : (16 : Int) < m := by omega
  have hce2 : (16 : Int) ≤ cap := by omega
  have hmin : min (m : Int) 16 = 16 := by omega
  have b16 := hr.get (j := 16) (by omega)
  have b17 := hr.get (j := 17) (by omega)
  have b18 := hr.get (j := 18) (by omega)
  rw [← h16] at b16
  rw [← h17] at b17
  rw [← hk] at b18
  have hn0 : 0 ≤ n := by omega
  have hn1 : n ≤ 65535 := by omega
  have hwn : IntKind.i64.wrap n = n := by rw [IntKind.wrap_i64]; omega
  have hwk : IntKind.i64.wrap k = k := by rw [IntKind.wrap_i64]; omega
  obtain ⟨ga, oa, eA, hga, hcells⟩ : ∃ g o, A = some ⟨g, o, none⟩ ∧ g < w.heap.size ∧ ∀ j, j < xs.length → w.cell? ⟨g, o + j, none⟩ = some (.int .u8 (xs.getD j 0)) := by
    obtain ⟨h1, h2, A', c', e, h3, h4, h5⟩ := hr
    injection e with e1 e2 e3
    subst e1
    exact h5 (by omega)
  subst eA
  have HK : Hid (∀ W, Below w.heap.size w W → W.cell? ⟨ga, oa + 16, none⟩ = some (.int .u8 x16) ∧ W.cell? ⟨ga, oa + 17, none⟩ = some (.int .u8 x17) ∧ W.cell? ⟨ga, oa + 18, none⟩ = some (.int .u8 k)) := fun W hb => by
    refine ⟨?_, ?_, ?_⟩
    · rw [hb.cell hga, hcells 16 (by omega), h16]
    · rw [hb.cell hga, hcells 17 (by omega), h17]
    · rw [hb.cell hga, hcells 18 (by omega), hk]
  have HD := Lib.hid (show xs.drop 16 = x16 :: x17 :: k :: xs.drop 19 by rw [h16, h17, hk]; exact drop_16 (by omega))
  have HQ := Lib.hid (hr.take (q := 16) (by omega))
  have HR := Lib.hid hr
  have HL := Lib.hid (show 16 ≤ xs.length by omega)
  have HN := Lib.hid hn
  have HI := Lib.hid hI
  have HX16 := Lib.hid b16
  have HX17 := Lib.hid b17
  have HX18 := Lib.hid b18
  have HMO := Lib.hid (fun w => (show Calls Try.prog 46 #[.agg #[.bool a, .bool b, .bool c, .bool d, .bool e, .bool f]] w (RV (.int .i64 M) w) from hM ▸ most_any a b c d e f w))
  have HLE := Lib.hid (fun w => (show Calls Try.prog 19 #[.int .i64 k] w (RV (.int .i64 l) w) from hl ▸ least_any k w))
  have HLI := Lib.hid (fun w => (show Calls Try.prog 17 #[.agg #[.bool a, .bool b, .bool c, .bool d, .bool e, .bool f], .int .i64 k] w (RV (.int .i64 L) w) from hL ▸ limit_any a b c d e f k w))
  clear hI hr hml hm h16 h17 hn hk hM hl hL hcells b16 b17 b18
  obtain ⟨W0, hW0⟩ : ∃ W0, W0 = pw w a b c d e f := ⟨_, rfl⟩
  have HW := Lib.hid hW0
  have HB := Lib.hid (show Below w.heap.size w W0 by rw [hW0]; exact pw_below w a b c d e f)
  have HS := Lib.hid (show W0.heap.size = w.heap.size + 3 by rw [hW0]; exact pw_size w a b c d e f)
  have HC := Lib.hid (show PC w.heap.size a b c d e f W0 by rw [hW0]; exact PC.start w a b c d e f)
  clear hW0
  have k0 : (l == 0) = false := by simpa using hz
  clear hz
  go_enter Try.func22, Try.ntmps22
  go_wp2_with fail
  rw [show ((w.alloc (.cells #[.bool a, .bool b, .bool c, .bool d, .bool e, .bool f] 23)).alloc (.cells #[.int .i64 0, .int .i64 0] 28)).alloc (.cells #[.int .i64 0, .int .i64 0, .int .i64 0, .slice none 0 0, .int .i64 0] 38) = W0 from HW.out.symm]
  refine (index_any _ _ _ (HQ.out.below HB.out)).mono ?_
  rintro r w1 ⟨rfl, hb1⟩
  have HB1 := Lib.hid hb1
  have HS1 := Lib.hid hb1.size
  clear hb1
  rw [HI.out]
  go_wp2_with fail
  refine (new_any _ _ _ (HR.out.below (below_then' HB.out HB1.out))).mono ?_
  rintro r w2 ⟨g, rfl, hg, hb2, hrd⟩
  have HG := Lib.hid hg
  have HB2 := Lib.hid hb2
  have HR2 := Lib.hid hrd
  clear hg hb2 hrd
  go_wp2_with fail
  refine (take_any g xs 0 16 (by omega) (by omega) (by omega) _ HR2.out).mono ?_
  rintro r w3 ⟨v3, rfl, hb3, hrd3⟩
  rw [if_pos HL.out, HD.out] at hrd3
  have HB3 := Lib.hid hb3
  have HR3 := Lib.hid hrd3
  clear hb3 hrd3
  go_wp2_with fail
  refine (number_2 g x16 x17 (k :: xs.drop 19) _ (by simp) _ HR3.out).mono ?_
  rintro r w4 ⟨rfl, hb4, hrd4⟩
  have HB4 := Lib.hid hb4
  have HR4 := Lib.hid hrd4
  clear hb4 hrd4
  rw [← HN.out]
  go_wp2_with fail
  refine (number_1 g k (xs.drop 19) _ (by simp) _ HR4.out).mono ?_
  rintro r w5 ⟨rfl, hb5, hrd5⟩
  have HB5 := Lib.hid (show Below W0.heap.size W0 w5 from HB1.out.trans ((HB2.out.mono HS1.out).trans (((HB3.out.trans HB4.out).trans hb5).mono (Nat.le_trans HS1.out HG.out))))
  clear hb5 hrd5
  go_wp2_with fail
  obtain ⟨W1, hW1⟩ : ∃ W1, W1 = w5.alloc (.cells #[.int .i64 n, .int .i64 k] 28) := ⟨_, rfl⟩
  rw [← hW1]
  obtain ⟨P, hP⟩ : ∃ P, P = w5.heap.size := ⟨_, rfl⟩
  rw [← hP]
  have hPS : w.heap.size + 3 ≤ P := by have := HB5.out.size; have := HS.out; omega
  obtain ⟨S, hS⟩ : ∃ S, S = fun w' => Below W1.heap.size W1 w' := ⟨_, rfl⟩
  have hSp : ∀ x, S x → Below W1.heap.size W1 x := by rw [hS]; exact fun _ h => h
  have HX := Lib.hid (show ∀ x1 x2, S x1 → Below x1.heap.size x1 x2 → S x2 from by rw [hS]; exact fun x1 x2 h hb => below_then' h hb)
  have hW0 : ∀ p : Wld S, Below W0.heap.size W0 p.w := fun p => (HB5.out.trans (below_alloc' (Below.refl _ _) HB5.out.size (.cells #[.int .i64 n, .int .i64 k] 28))).trans (by rw [← hW1]; exact (hSp _ p.ok).mono (by rw [hW1]; have := HB5.out.size; simp; omega))
  have HP := Lib.hid hW0
  have hc : ∀ p : Wld S, PC w.heap.size a b c d e f p.w := fun p => HC.out.below (hW0 p) (by have := HS.out; omega)
  have HPC := Lib.hid hc
  have h0 : ∀ p : Wld S, p.w.cell? ⟨P, 0, none⟩ = some (.int .i64 n) := fun p => by rw [(hSp _ p.ok).cell (by rw [hW1, hP]; simp), hW1, World.cell?_alloc_at _ _ _ _ hP]; rfl
  have h1 : ∀ p : Wld S, p.w.cell? ⟨P, 1, none⟩ = some (.int .i64 k) := fun p => by rw [(hSp _ p.ok).cell (by rw [hW1, hP]; simp), hW1, World.cell?_alloc_at _ _ _ _ hP]; rfl
  have g0 : ∀ p : Wld S, p.w.cell? ⟨w.heap.size, 0, none⟩ = some (.bool a) := fun p => (hc p).1.1
  have g1 : ∀ p : Wld S, p.w.cell? ⟨w.heap.size, 1, none⟩ = some (.bool b) := fun p => (hc p).1.2.1
  have g2 : ∀ p : Wld S, p.w.cell? ⟨w.heap.size, 2, none⟩ = some (.bool c) := fun p => (hc p).1.2.2.1
  have g3 : ∀ p : Wld S, p.w.cell? ⟨w.heap.size, 3, none⟩ = some (.bool d) := fun p => (hc p).1.2.2.2.1
  have g4 : ∀ p : Wld S, p.w.cell? ⟨w.heap.size, 4, none⟩ = some (.bool e) := fun p => (hc p).1.2.2.2.2.1
  have g5 : ∀ p : Wld S, p.w.cell? ⟨w.heap.size, 5, none⟩ = some (.bool f) := fun p => (hc p).1.2.2.2.2.2
  have HSW := Lib.hid (show S W1.drew by rw [hS]; exact (Below.refl _ _).drew)
  have HSS := Lib.hid (show ∀ p : Wld S, S p.w.drew by rw [hS]; exact fun p => ((show Below W1.heap.size W1 p.w by have := p.ok; simpa [hS] using this)).drew)
  clear hS hSp hW0 hc hW1 hP
  have hne1 : Nonempty (Wld S) := ⟨⟨_, HSW.out⟩⟩
  refine wp_region_sub S (by kernel_rfl) (by kernel_rfl) (HSW.out) ?_
  repeat (quiet_step (first
      | (go_at_call 46; exact calls_sub HX.out (HMO.out _))
      | (go_at_call 19; exact calls_sub HX.out (HLE.out _))
      | (go_at_call 17; exact calls_sub HX.out (HLI.out _))))
  refine wpQuiet_nil ?_
  intro _ hw'
  obtain ⟨pq, hw''⟩ := hw'
  subst hw''
  go_wp2_with fail
  refine (HLE.out _).mono ?_
  rintro r w6 ⟨rfl, hb6⟩
  obtain ⟨pr, hpr⟩ : ∃ p : Wld S, p.w = w6 := ⟨⟨w6, HX.out _ _ pq.ok hb6⟩, rfl⟩
  subst hpr
  clear hb6
  go_wp2_with fail
  have hne2 : Nonempty (Wld S) := ⟨⟨_, HSS.out pr⟩⟩
  refine wp_region_sub S (by kernel_rfl) (by kernel_rfl) (HSS.out pr) ?_
  repeat (quiet_step (first
      | (go_at_call 46; exact calls_sub HX.out (HMO.out _))
      | (go_at_call 19; exact calls_sub HX.out (HLE.out _))
      | (go_at_call 17; exact calls_sub HX.out (HLI.out _))))
  refine wpQuiet_nil ?_
  intro _ hw'
  obtain ⟨ps, hw''⟩ := hw'
  subst hw''
  obtain ⟨⟨p0, p1, p2, p3, p4, p5⟩, ⟨q0, q1⟩, ⟨r0, r1, r2, r3, r4⟩, f1, f2⟩ := HPC.out ps
  have hPN1 : ¬ P = w.heap.size + 1 := by omega
  have hPN2 : ¬ P = w.heap.size + 1 + 1 := by omega
  go_wp2_with fail
  refine bodyPost_ret (v := .tuple #[.agg #[.int .i64 n, .int .i64 k], .agg #[.int .i64 0, .int .i64 0, .int .i64 0, .slice none 0 0, .int .i64 0]]) (by simp [results, Try.results22, go_sem, *]) rfl ?_
  exact pp_end none 0 (below_then' HB.out (HP.out ps)) (RdB.nil _ none 0 ⟨by omega, fun _ => rfl⟩) (fun _ _ e => nomatch e)


end Go.Proofs.Ytdiiolbkjmhmdaa
