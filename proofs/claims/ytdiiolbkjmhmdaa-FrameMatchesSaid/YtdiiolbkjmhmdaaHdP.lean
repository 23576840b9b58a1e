/- header.Parse. -/
import Derived.Test.YtdiiolbkjmhmdaaHdO
namespace Go.Proofs.Ytdiiolbkjmhmdaa
open Go.RowKit
set_option linter.unusedSimpArgs false
set_option linter.unusedVariables false

set_option maxRecDepth 100000 in
set_option maxHeartbeats 4000000 in
theorem parse_markX (w : World) (A : Option Addr) (m cap : Nat) (xs : List Int) (hr : RdB w (.slice A m cap) xs) (hq : m ≤ 16) (a b c d e f : Bool) (i : Int) (hi : 0 ≤ i) (hI : markI (xs.take m) = i) :
    Calls Try.prog 22 #[.agg #[.bool a, .bool b, .bool c, .bool d, .bool e, .bool f], .slice A m cap] w (PP 0 0 4 1 1 i [] w) := by
  obtain ⟨hml, hmc, hcap⟩ := hr.len
  have hm := hr.2.1
  unfold maxB at hm
  have hm' : m ≤ 140737488351232 := by omega
  have hce : (m : Int) ≤ cap := by omega
  have hle : (m : Int) ≤ 16 := by omega
  have hmin : min (m : Int) 16 = m := by omega
  have HQ := Lib.hid (hr.take (q := m) (by omega))
  have HR := Lib.hid hr
  have HML := Lib.hid hml
  have HI := Lib.hid hI
  clear hI
  clear hr hml hm
  obtain ⟨W0, hW0⟩ : ∃ W0, W0 = pw w a b c d e f := ⟨_, rfl⟩
  have HW := Lib.hid hW0
  have HB := Lib.hid (show Below w.heap.size w W0 by rw [hW0]; exact pw_below w a b c d e f)
  have HS := Lib.hid (show W0.heap.size = w.heap.size + 3 by rw [hW0]; exact pw_size w a b c d e f)
  have HC := Lib.hid (show PC w.heap.size a b c d e f W0 by rw [hW0]; exact PC.start w a b c d e f)
  clear hW0
  go_enter Try.func22, Try.ntmps22
  go_wp2_with fail
  rw [show ((w.alloc (.cells #[.bool a, .bool b, .bool c, .bool d, .bool e, .bool f] 23)).alloc (.cells #[.int .i64 0, .int .i64 0] 28)).alloc (.cells #[.int .i64 0, .int .i64 0, .int .i64 0, .slice none 0 0, .int .i64 0] 38) = W0 from HW.out.symm]
  refine (index_any _ _ _ (HQ.out.below HB.out)).mono ?_
  rintro r w1 ⟨rfl, hb1⟩
  have HB1 := Lib.hid hb1
  have HS1 := Lib.hid hb1.size
  clear hb1
  rw [HI.out]
  go_wp2_with fail
  refine (fail_any _ _ _ _ _ _).mono ?_
  rintro r w2 ⟨rfl, hb2⟩
  have HB2 := Lib.hid (HB1.out.trans (hb2.mono HS1.out))
  have HCX := Lib.hid (HC.out.below HB2.out (by have := HS.out; omega))
  clear hb2
  obtain ⟨⟨p0, p1, p2, p3, p4, p5⟩, ⟨q0, q1⟩, ⟨r0, r1, r2, r3, r4⟩, f1, f2⟩ := HCX.out
  go_wp2_with fail
  refine bodyPost_ret (v := .tuple #[.agg #[.int .i64 0, .int .i64 0], .agg #[.int .i64 4, .int .i64 1, .int .i64 1, .slice none 0 0, .int .i64 i]]) (by simp [results, Try.results22, go_sem, *]) rfl ?_
  exact pp_end none 0 (below_then' HB.out HB2.out) (RdB.nil _ none 0 ⟨by omega, fun _ => rfl⟩) (fun _ _ e => nomatch e)

set_option maxRecDepth 100000 in
set_option maxHeartbeats 4000000 in
theorem parse_markY (w : World) (A : Option Addr) (m cap : Nat) (xs : List Int) (hr : RdB w (.slice A m cap) xs) (hq : ¬ m ≤ 16) (a b c d e f : Bool) (i : Int) (hi : 0 ≤ i) (hI : markI (xs.take 16) = i) :
    Calls Try.prog 22 #[.agg #[.bool a, .bool b, .bool c, .bool d, .bool e, .bool f], .slice A m cap] w (PP 0 0 4 1 1 i [] w) := by
  obtain ⟨hml, hmc, hcap⟩ := hr.len
  have hm := hr.2.1
  unfold maxB at hm
  have hm' : m ≤ 140737488351232 := by omega
  have hce : (m : Int) ≤ cap := by omega
  have hle : (16 : Int) ≤ m := by omega
  have hce2 : (16 : Int) ≤ cap := by omega
  have hmin : min (m : Int) 16 = 16 := by omega
  have HQ := Lib.hid (hr.take (q := 16) (by omega))
  have HR := Lib.hid hr
  have HML := Lib.hid hml
  have HI := Lib.hid hI
  clear hI
  clear hr hml hm
  obtain ⟨W0, hW0⟩ : ∃ W0, W0 = pw w a b c d e f := ⟨_, rfl⟩
  have HW := Lib.hid hW0
  have HB := Lib.hid (show Below w.heap.size w W0 by rw [hW0]; exact pw_below w a b c d e f)
  have HS := Lib.hid (show W0.heap.size = w.heap.size + 3 by rw [hW0]; exact pw_size w a b c d e f)
  have HC := Lib.hid (show PC w.heap.size a b c d e f W0 by rw [hW0]; exact PC.start w a b c d e f)
  clear hW0
  go_enter Try.func22, Try.ntmps22
  go_wp2_with fail
  rw [show ((w.alloc (.cells #[.bool a, .bool b, .bool c, .bool d, .bool e, .bool f] 23)).alloc (.cells #[.int .i64 0, .int .i64 0] 28)).alloc (.cells #[.int .i64 0, .int .i64 0, .int .i64 0, .slice none 0 0, .int .i64 0] 38) = W0 from HW.out.symm]
  refine (index_any _ _ _ (HQ.out.below HB.out)).mono ?_
  rintro r w1 ⟨rfl, hb1⟩
  have HB1 := Lib.hid hb1
  have HS1 := Lib.hid hb1.size
  clear hb1
  rw [HI.out]
  go_wp2_with fail
  refine (fail_any _ _ _ _ _ _).mono ?_
  rintro r w2 ⟨rfl, hb2⟩
  have HB2 := Lib.hid (HB1.out.trans (hb2.mono HS1.out))
  have HCX := Lib.hid (HC.out.below HB2.out (by have := HS.out; omega))
  clear hb2
  obtain ⟨⟨p0, p1, p2, p3, p4, p5⟩, ⟨q0, q1⟩, ⟨r0, r1, r2, r3, r4⟩, f1, f2⟩ := HCX.out
  go_wp2_with fail
  refine bodyPost_ret (v := .tuple #[.agg #[.int .i64 0, .int .i64 0], .agg #[.int .i64 4, .int .i64 1, .int .i64 1, .slice none 0 0, .int .i64 i]]) (by simp [results, Try.results22, go_sem, *]) rfl ?_
  exact pp_end none 0 (below_then' HB.out HB2.out) (RdB.nil _ none 0 ⟨by omega, fun _ => rfl⟩) (fun _ _ e => nomatch e)

set_option maxRecDepth 100000 in
set_option maxHeartbeats 4000000 in
theorem parse_shortX (w : World) (A : Option Addr) (m cap : Nat) (xs : List Int) (hr : RdB w (.slice A m cap) xs) (hq : m ≤ 16) (a b c d e f : Bool) (h19 : m < 19) (hI : markI (xs.take m) = -1) :
    Calls Try.prog 22 #[.agg #[.bool a, .bool b, .bool c, .bool d, .bool e, .bool f], .slice A m cap] w (PP 0 0 4 1 2 m [] w) := by
  obtain ⟨hml, hmc, hcap⟩ := hr.len
  have hm := hr.2.1
  unfold maxB at hm
  have hm' : m ≤ 140737488351232 := by omega
  have hce : (m : Int) ≤ cap := by omega
  have hle : (m : Int) ≤ 16 := by omega
  have hmin : min (m : Int) 16 = m := by omega
  have HQ := Lib.hid (hr.take (q := m) (by omega))
  have HR := Lib.hid hr
  have HML := Lib.hid hml
  have HI := Lib.hid hI
  have h19' : (m : Int) < 19 := by omega
  clear hI
  clear hr hml hm
  obtain ⟨W0, hW0⟩ : ∃ W0, W0 = pw w a b c d e f := ⟨_, rfl⟩
  have HW := Lib.hid hW0
  have HB := Lib.hid (show Below w.heap.size w W0 by rw [hW0]; exact pw_below w a b c d e f)
  have HS := Lib.hid (show W0.heap.size = w.heap.size + 3 by rw [hW0]; exact pw_size w a b c d e f)
  have HC := Lib.hid (show PC w.heap.size a b c d e f W0 by rw [hW0]; exact PC.start w a b c d e f)
  clear hW0
  go_enter Try.func22, Try.ntmps22
  go_wp2_with fail
  rw [show ((w.alloc (.cells #[.bool a, .bool b, .bool c, .bool d, .bool e, .bool f] 23)).alloc (.cells #[.int .i64 0, .int .i64 0] 28)).alloc (.cells #[.int .i64 0, .int .i64 0, .int .i64 0, .slice none 0 0, .int .i64 0] 38) = W0 from HW.out.symm]
  refine (index_any _ _ _ (HQ.out.below HB.out)).mono ?_
  rintro r w1 ⟨rfl, hb1⟩
  have HB1 := Lib.hid hb1
  have HS1 := Lib.hid hb1.size
  clear hb1
  rw [HI.out]
  go_wp2_with fail
  refine (new_any _ _ _ (HR.out.below (below_then' HB.out HB1.out))).mono ?_
  rintro r w2 ⟨g, rfl, hg, hb2, hrd⟩
  have HG := Lib.hid hg
  have HB2 := Lib.hid hb2
  have HR2 := Lib.hid hrd
  clear hg hb2 hrd
  go_wp2_with fail
  refine (take_any g xs 0 16 (by omega) (by omega) (by omega) _ HR2.out).mono ?_
  rintro r w3 ⟨v3, rfl, hb3, hrd3⟩
  obtain ⟨ys, a3, hrd3', ha3⟩ : ∃ ys a', Rd g ys a' w3 ∧ (0 : Int) ≤ a' ∧ a' ≤ 100 := by
    split at hrd3
    · exact ⟨_, _, hrd3, by omega⟩
    · exact ⟨_, _, hrd3, by omega⟩
  have HB3 := Lib.hid hb3
  have HR3 := Lib.hid hrd3'
  have HA3 := Lib.hid ha3
  clear hb3 hrd3 hrd3' ha3
  go_wp2_with fail
  refine (numq_2 g ys a3 HA3.out _ HR3.out).mono ?_
  rintro r w4 ⟨y4, z4, xs4, a4, rfl, hb4, hrd4, ha4, ha4'⟩
  have HB4 := Lib.hid hb4
  have HR4 := Lib.hid hrd4
  have HA4 := Lib.hid (show 0 ≤ a4 ∧ a4 ≤ 500 from ⟨ha4, ha4'⟩)
  clear hb4 hrd4 ha4 ha4'
  go_wp2_with fail
  refine (numq_1 g xs4 a4 HA4.out _ HR4.out).mono ?_
  rintro r w5 ⟨y5, z5, rfl, hb5⟩
  have HB5 := Lib.hid hb5
  clear hb5
  cases z5
  all_goals go_wp2_with fail
  all_goals refine (fail_any _ _ _ _ _ _).mono ?_
  all_goals rintro r w6 ⟨rfl, hb6⟩
  all_goals have HB6 := Lib.hid (show Below W0.heap.size W0 w6 from HB1.out.trans ((HB2.out.mono HS1.out).trans ((((HB3.out.trans HB4.out).trans HB5.out).mono (Nat.le_trans HS1.out HG.out)).trans (hb6.mono (by have := HB3.out.size; have := HB4.out.size; have := HB5.out.size; have := HB2.out.size; have := HS1.out; omega)))))
  all_goals have HCX := Lib.hid (HC.out.below HB6.out (by have := HS.out; omega))
  all_goals clear hb6
  all_goals obtain ⟨⟨p0, p1, p2, p3, p4, p5⟩, ⟨q0, q1⟩, ⟨r0, r1, r2, r3, r4⟩, f1, f2⟩ := HCX.out
  all_goals go_wp2_with fail
  all_goals refine bodyPost_ret (v := .tuple #[.agg #[.int .i64 0, .int .i64 0], .agg #[.int .i64 4, .int .i64 1, .int .i64 2, .slice none 0 0, .int .i64 m]]) (by simp [results, Try.results22, go_sem, *]) rfl ?_
  all_goals exact pp_end none 0 (below_then' HB.out HB6.out) (RdB.nil _ none 0 ⟨by omega, fun _ => rfl⟩) (fun _ _ e => nomatch e)

set_option maxRecDepth 100000 in
set_option maxHeartbeats 4000000 in
theorem parse_shortY (w : World) (A : Option Addr) (m cap : Nat) (xs : List Int) (hr : RdB w (.slice A m cap) xs) (hq : ¬ m ≤ 16) (a b c d e f : Bool) (h19 : m < 19) (hI : markI (xs.take 16) = -1) :
    Calls Try.prog 22 #[.agg #[.bool a, .bool b, .bool c, .bool d, .bool e, .bool f], .slice A m cap] w (PP 0 0 4 1 2 m [] w) := by
  obtain ⟨hml, hmc, hcap⟩ := hr.len
  have hm := hr.2.1
  unfold maxB at hm
  have hm' : m ≤ 140737488351232 := by omega
  have hce : (m : Int) ≤ cap := by omega
  have hle : (16 : Int) ≤ m := by omega
  have hce2 : (16 : Int) ≤ cap := by omega
  have hmin : min (m : Int) 16 = 16 := by omega
  have HQ := Lib.hid (hr.take (q := 16) (by omega))
  have HR := Lib.hid hr
  have HML := Lib.hid hml
  have HI := Lib.hid hI
  have h19' : (m : Int) < 19 := by omega
  clear hI
  clear hr hml hm
  obtain ⟨W0, hW0⟩ : ∃ W0, W0 = pw w a b c d e f := ⟨_, rfl⟩
  have HW := Lib.hid hW0
  have HB := Lib.hid (show Below w.heap.size w W0 by rw [hW0]; exact pw_below w a b c d e f)
  have HS := Lib.hid (show W0.heap.size = w.heap.size + 3 by rw [hW0]; exact pw_size w a b c d e f)
  have HC := Lib.hid (show PC w.heap.size a b c d e f W0 by rw [hW0]; exact PC.start w a b c d e f)
  clear hW0
  go_enter Try.func22, Try.ntmps22
  go_wp2_with fail
  rw [show ((w.alloc (.cells #[.bool a, .bool b, .bool c, .bool d, .bool e, .bool f] 23)).alloc (.cells #[.int .i64 0, .int .i64 0] 28)).alloc (.cells #[.int .i64 0, .int .i64 0, .int .i64 0, .slice none 0 0, .int .i64 0] 38) = W0 from HW.out.symm]
  refine (index_any _ _ _ (HQ.out.below HB.out)).mono ?_
  rintro r w1 ⟨rfl, hb1⟩
  have HB1 := Lib.hid hb1
  have HS1 := Lib.hid hb1.size
  clear hb1
  rw [HI.out]
  go_wp2_with fail
  refine (new_any _ _ _ (HR.out.below (below_then' HB.out HB1.out))).mono ?_
  rintro r w2 ⟨g, rfl, hg, hb2, hrd⟩
  have HG := Lib.hid hg
  have HB2 := Lib.hid hb2
  have HR2 := Lib.hid hrd
  clear hg hb2 hrd
  go_wp2_with fail
  refine (take_any g xs 0 16 (by omega) (by omega) (by omega) _ HR2.out).mono ?_
  rintro r w3 ⟨v3, rfl, hb3, hrd3⟩
  obtain ⟨ys, a3, hrd3', ha3⟩ : ∃ ys a', Rd g ys a' w3 ∧ (0 : Int) ≤ a' ∧ a' ≤ 100 := by
    split at hrd3
    · exact ⟨_, _, hrd3, by omega⟩
    · exact ⟨_, _, hrd3, by omega⟩
  have HB3 := Lib.hid hb3
  have HR3 := Lib.hid hrd3'
  have HA3 := Lib.hid ha3
  clear hb3 hrd3 hrd3' ha3
  go_wp2_with fail
  refine (numq_2 g ys a3 HA3.out _ HR3.out).mono ?_
  rintro r w4 ⟨y4, z4, xs4, a4, rfl, hb4, hrd4, ha4, ha4'⟩
  have HB4 := Lib.hid hb4
  have HR4 := Lib.hid hrd4
  have HA4 := Lib.hid (show 0 ≤ a4 ∧ a4 ≤ 500 from ⟨ha4, ha4'⟩)
  clear hb4 hrd4 ha4 ha4'
  go_wp2_with fail
  refine (numq_1 g xs4 a4 HA4.out _ HR4.out).mono ?_
  rintro r w5 ⟨y5, z5, rfl, hb5⟩
  have HB5 := Lib.hid hb5
  clear hb5
  cases z5
  all_goals go_wp2_with fail
  all_goals refine (fail_any _ _ _ _ _ _).mono ?_
  all_goals rintro r w6 ⟨rfl, hb6⟩
  all_goals have HB6 := Lib.hid (show Below W0.heap.size W0 w6 from HB1.out.trans ((HB2.out.mono HS1.out).trans ((((HB3.out.trans HB4.out).trans HB5.out).mono (Nat.le_trans HS1.out HG.out)).trans (hb6.mono (by have := HB3.out.size; have := HB4.out.size; have := HB5.out.size; have := HB2.out.size; have := HS1.out; omega)))))
  all_goals have HCX := Lib.hid (HC.out.below HB6.out (by have := HS.out; omega))
  all_goals clear hb6
  all_goals obtain ⟨⟨p0, p1, p2, p3, p4, p5⟩, ⟨q0, q1⟩, ⟨r0, r1, r2, r3, r4⟩, f1, f2⟩ := HCX.out
  all_goals go_wp2_with fail
  all_goals refine bodyPost_ret (v := .tuple #[.agg #[.int .i64 0, .int .i64 0], .agg #[.int .i64 4, .int .i64 1, .int .i64 2, .slice none 0 0, .int .i64 m]]) (by simp [results, Try.results22, go_sem, *]) rfl ?_
  all_goals exact pp_end none 0 (below_then' HB.out HB6.out) (RdB.nil _ none 0 ⟨by omega, fun _ => rfl⟩) (fun _ _ e => nomatch e)


end Go.Proofs.Ytdiiolbkjmhmdaa
