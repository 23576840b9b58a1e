/- Limit, Least, Name of a kind and the reference's: what each returns. -/
import Derived.Test.YtdiiolbkjmhmdaaHdA
namespace Go.Proofs.Ytdiiolbkjmhmdaa
open Go.RowKit
set_option linter.unusedSimpArgs false
set_option linter.unusedVariables false
theorem fld0 (s : ByteArray) (x y : Int) (z : Bool) (w : World) : (Instr.field 82 (.agg #[.string s, .int .i64 x, .int .i64 y, .bool z]) 0).run Try.prog w = .ok (.string s) w := by kernel_rfl
theorem fld1 (s : ByteArray) (x y : Int) (z : Bool) (w : World) : (Instr.field 82 (.agg #[.string s, .int .i64 x, .int .i64 y, .bool z]) 1).run Try.prog w = .ok (.int .i64 x) w := by kernel_rfl

set_option maxRecDepth 100000 in
theorem least_1 (w : World) : Calls Try.prog 19 #[.int .i64 1] w (RV (.int .i64 29) w) := by
  have fx := fld1
  go_enter Try.func19, Try.ntmps19
  go_wp2_with fail
  refine (of_1 _).mono ?_
  rintro r w1 ⟨rfl, hb⟩
  have HB := Lib.hid hb
  clear hb
  go_wp2_with fail
  go_ret
  exact ⟨rfl, HB.out⟩

set_option maxRecDepth 100000 in
theorem least_2 (w : World) : Calls Try.prog 19 #[.int .i64 2] w (RV (.int .i64 23) w) := by
  have fx := fld1
  go_enter Try.func19, Try.ntmps19
  go_wp2_with fail
  refine (of_2 _).mono ?_
  rintro r w1 ⟨rfl, hb⟩
  have HB := Lib.hid hb
  clear hb
  go_wp2_with fail
  go_ret
  exact ⟨rfl, HB.out⟩

set_option maxRecDepth 100000 in
theorem least_3 (w : World) : Calls Try.prog 19 #[.int .i64 3] w (RV (.int .i64 21) w) := by
  have fx := fld1
  go_enter Try.func19, Try.ntmps19
  go_wp2_with fail
  refine (of_3 _).mono ?_
  rintro r w1 ⟨rfl, hb⟩
  have HB := Lib.hid hb
  clear hb
  go_wp2_with fail
  go_ret
  exact ⟨rfl, HB.out⟩

set_option maxRecDepth 100000 in
theorem least_4 (w : World) : Calls Try.prog 19 #[.int .i64 4] w (RV (.int .i64 19) w) := by
  have fx := fld1
  go_enter Try.func19, Try.ntmps19
  go_wp2_with fail
  refine (of_4 _).mono ?_
  rintro r w1 ⟨rfl, hb⟩
  have HB := Lib.hid hb
  clear hb
  go_wp2_with fail
  go_ret
  exact ⟨rfl, HB.out⟩

set_option maxRecDepth 100000 in
theorem least_5 (w : World) : Calls Try.prog 19 #[.int .i64 5] w (RV (.int .i64 23) w) := by
  have fx := fld1
  go_enter Try.func19, Try.ntmps19
  go_wp2_with fail
  refine (of_5 _).mono ?_
  rintro r w1 ⟨rfl, hb⟩
  have HB := Lib.hid hb
  clear hb
  go_wp2_with fail
  go_ret
  exact ⟨rfl, HB.out⟩

set_option maxRecDepth 100000 in
theorem least_0 (k : Int) (h : ¬ k = 1 ∧ ¬ k = 2 ∧ ¬ k = 3 ∧ ¬ k = 4 ∧ ¬ k = 5) (w : World) : Calls Try.prog 19 #[.int .i64 k] w (RV (.int .i64 0) w) := by
  have O : Hid (∀ w, Calls Try.prog 45 #[.int .i64 k] w (RV (.agg #[.string ⟨#[]⟩, .int .i64 0, .int .i64 0, .bool false]) w)) := fun w => rowK0 h ▸ of_any k w
  clear h
  have fx := fld1
  go_enter Try.func19, Try.ntmps19
  go_wp2_with fail
  refine (O.out _).mono ?_
  rintro r w1 ⟨rfl, hb⟩
  have HB := Lib.hid hb
  clear hb
  go_wp2_with fail
  go_ret
  exact ⟨rfl, HB.out⟩

theorem least_any (k : Int) (w : World) : Calls Try.prog 19 #[.int .i64 k] w (RV (.int .i64 (leastK k)) w) := by
  rcases kinds k with rfl | rfl | rfl | rfl | rfl | h
  · exact least_1 w
  · exact least_2 w
  · exact least_3 w
  · exact least_4 w
  · exact least_5 w
  · rw [leastK0 h]; exact least_0 k h w

set_option maxRecDepth 100000 in
theorem name_1 (w : World) : Calls Try.prog 21 #[.int .i64 1] w (RV (.string ⟨#[79, 80, 69, 78]⟩) w) := by
  have fx := fld0
  go_enter Try.func21, Try.ntmps21
  go_wp2_with fail
  refine (of_1 _).mono ?_
  rintro r w1 ⟨rfl, hb⟩
  have HB := Lib.hid hb
  clear hb
  go_wp2_with fail
  go_ret
  exact ⟨rfl, HB.out⟩

set_option maxRecDepth 100000 in
theorem name_2 (w : World) : Calls Try.prog 21 #[.int .i64 2] w (RV (.string ⟨#[85, 80, 68, 65, 84, 69]⟩) w) := by
  have fx := fld0
  go_enter Try.func21, Try.ntmps21
  go_wp2_with fail
  refine (of_2 _).mono ?_
  rintro r w1 ⟨rfl, hb⟩
  have HB := Lib.hid hb
  clear hb
  go_wp2_with fail
  go_ret
  exact ⟨rfl, HB.out⟩

set_option maxRecDepth 100000 in
theorem name_3 (w : World) : Calls Try.prog 21 #[.int .i64 3] w (RV (.string ⟨#[78, 79, 84, 73, 70, 73, 67, 65, 84, 73, 79, 78]⟩) w) := by
  have fx := fld0
  go_enter Try.func21, Try.ntmps21
  go_wp2_with fail
  refine (of_3 _).mono ?_
  rintro r w1 ⟨rfl, hb⟩
  have HB := Lib.hid hb
  clear hb
  go_wp2_with fail
  go_ret
  exact ⟨rfl, HB.out⟩

set_option maxRecDepth 100000 in
theorem name_4 (w : World) : Calls Try.prog 21 #[.int .i64 4] w (RV (.string ⟨#[75, 69, 69, 80, 65, 76, 73, 86, 69]⟩) w) := by
  have fx := fld0
  go_enter Try.func21, Try.ntmps21
  go_wp2_with fail
  refine (of_4 _).mono ?_
  rintro r w1 ⟨rfl, hb⟩
  have HB := Lib.hid hb
  clear hb
  go_wp2_with fail
  go_ret
  exact ⟨rfl, HB.out⟩

set_option maxRecDepth 100000 in
theorem name_5 (w : World) : Calls Try.prog 21 #[.int .i64 5] w (RV (.string ⟨#[82, 79, 85, 84, 69, 45, 82, 69, 70, 82, 69, 83, 72]⟩) w) := by
  have fx := fld0
  go_enter Try.func21, Try.ntmps21
  go_wp2_with fail
  refine (of_5 _).mono ?_
  rintro r w1 ⟨rfl, hb⟩
  have HB := Lib.hid hb
  clear hb
  go_wp2_with fail
  go_ret
  exact ⟨rfl, HB.out⟩

set_option maxRecDepth 100000 in
theorem name_0 (k : Int) (h : ¬ k = 1 ∧ ¬ k = 2 ∧ ¬ k = 3 ∧ ¬ k = 4 ∧ ¬ k = 5) (w : World) : Calls Try.prog 21 #[.int .i64 k] w (RV (.string ⟨#[]⟩) w) := by
  have O : Hid (∀ w, Calls Try.prog 45 #[.int .i64 k] w (RV (.agg #[.string ⟨#[]⟩, .int .i64 0, .int .i64 0, .bool false]) w)) := fun w => rowK0 h ▸ of_any k w
  clear h
  have fx := fld0
  go_enter Try.func21, Try.ntmps21
  go_wp2_with fail
  refine (O.out _).mono ?_
  rintro r w1 ⟨rfl, hb⟩
  have HB := Lib.hid hb
  clear hb
  go_wp2_with fail
  go_ret
  exact ⟨rfl, HB.out⟩

theorem name_any (k : Int) (w : World) : Calls Try.prog 21 #[.int .i64 k] w (RV (.string (nameK k)) w) := by
  rcases kinds k with rfl | rfl | rfl | rfl | rfl | h
  · exact name_1 w
  · exact name_2 w
  · exact name_3 w
  · exact name_4 w
  · exact name_5 w
  · rw [nameK0 h]; exact name_0 k h w

set_option maxRecDepth 100000 in
theorem most_any (a b c d e f : Bool) (w : World) : Calls Try.prog 46 #[.agg #[.bool a, .bool b, .bool c, .bool d, .bool e, .bool f]] w (RV (.int .i64 (mostK b)) w) := by
  cases b
  all_goals
    go_enter Try.func46, Try.ntmps46
    go_wp2
    go_ret
    exact ⟨rfl, below_alloc (Below.refl _ _) _⟩

set_option maxRecDepth 100000 in
theorem limit_1 (a b c d e f : Bool) (w : World) : Calls Try.prog 17 #[.agg #[.bool a, .bool b, .bool c, .bool d, .bool e, .bool f], .int .i64 1] w (RV (.int .i64 (4096)) w) := by
  go_enter Try.func17, Try.ntmps17
  go_wp2_with fail
  refine (of_1 _).mono ?_
  rintro r w1 ⟨rfl, hb⟩
  have hc : ∀ j v, #[Value.bool a, .bool b, .bool c, .bool d, .bool e, .bool f][j]? = some v → ∀ o, (w1.alloc o).cell? ⟨w.heap.size, j, none⟩ = some v := fun j v hj o => by
    rw [World.cell?_alloc_past _ _ _ (by have := hb.size; simp at this; omega), hb.cell (by simp), World.cell?_alloc_at _ _ _ _ rfl]; simpa using hj
  have c0 := hc 0 _ rfl
  have c1 := hc 1 _ rfl
  have c2 := hc 2 _ rfl
  have c3 := hc 3 _ rfl
  have c4 := hc 4 _ rfl
  have c5 := hc 5 _ rfl
  have HB := Lib.hid (below_then' (below_alloc (Below.refl w.heap.size w) _) hb)
  clear hb hc
  go_wp2_with fail
  go_ret
  exact ⟨rfl, below_alloc HB.out _⟩

set_option maxRecDepth 100000 in
theorem reflimit_1 (a b c d e f : Bool) (w : World) : Calls Try.prog 18 #[.agg #[.bool a, .bool b, .bool c, .bool d, .bool e, .bool f], .int .i64 1] w (RV (.int .i64 (4096)) w) := by
  go_enter Try.func18, Try.ntmps18
  go_wp2
  go_ret
  exact ⟨rfl, below_alloc (Below.refl _ _) _⟩

set_option maxRecDepth 100000 in
theorem refleast_1 (w : World) : Calls Try.prog 20 #[.int .i64 1] w (RV (.int .i64 29) w) := by
  go_enter Try.func20, Try.ntmps20
  go_wp2
  go_ret
  exact ⟨rfl, Below.refl _ _⟩

set_option maxRecDepth 100000 in
theorem limit_2 (a b c d e f : Bool) (w : World) : Calls Try.prog 17 #[.agg #[.bool a, .bool b, .bool c, .bool d, .bool e, .bool f], .int .i64 2] w (RV (.int .i64 (mostK b)) w) := by
  go_enter Try.func17, Try.ntmps17
  go_wp2_with fail
  refine (of_2 _).mono ?_
  rintro r w1 ⟨rfl, hb⟩
  have hc : ∀ j v, #[Value.bool a, .bool b, .bool c, .bool d, .bool e, .bool f][j]? = some v → ∀ o, (w1.alloc o).cell? ⟨w.heap.size, j, none⟩ = some v := fun j v hj o => by
    rw [World.cell?_alloc_past _ _ _ (by have := hb.size; simp at this; omega), hb.cell (by simp), World.cell?_alloc_at _ _ _ _ rfl]; simpa using hj
  have c0 := hc 0 _ rfl
  have c1 := hc 1 _ rfl
  have c2 := hc 2 _ rfl
  have c3 := hc 3 _ rfl
  have c4 := hc 4 _ rfl
  have c5 := hc 5 _ rfl
  have HB := Lib.hid (below_then' (below_alloc (Below.refl w.heap.size w) _) hb)
  clear hb hc
  go_wp2_with fail
  refine (most_any a b c d e f _).mono ?_
  rintro r w2 ⟨rfl, hb2⟩
  have H2 := Lib.hid hb2
  clear hb2 c0 c1 c2 c3 c4 c5
  go_wp2_with fail
  go_ret
  exact ⟨rfl, below_then' (below_alloc HB.out _) H2.out⟩

set_option maxRecDepth 100000 in
theorem reflimit_2 (a b c d e f : Bool) (w : World) : Calls Try.prog 18 #[.agg #[.bool a, .bool b, .bool c, .bool d, .bool e, .bool f], .int .i64 2] w (RV (.int .i64 (mostK b)) w) := by
  cases b
  all_goals
    go_enter Try.func18, Try.ntmps18
    go_wp2
    go_ret
    exact ⟨rfl, below_alloc (Below.refl _ _) _⟩

set_option maxRecDepth 100000 in
theorem refleast_2 (w : World) : Calls Try.prog 20 #[.int .i64 2] w (RV (.int .i64 23) w) := by
  go_enter Try.func20, Try.ntmps20
  go_wp2
  go_ret
  exact ⟨rfl, Below.refl _ _⟩

set_option maxRecDepth 100000 in
theorem limit_3 (a b c d e f : Bool) (w : World) : Calls Try.prog 17 #[.agg #[.bool a, .bool b, .bool c, .bool d, .bool e, .bool f], .int .i64 3] w (RV (.int .i64 (mostK b)) w) := by
  go_enter Try.func17, Try.ntmps17
  go_wp2_with fail
  refine (of_3 _).mono ?_
  rintro r w1 ⟨rfl, hb⟩
  have hc : ∀ j v, #[Value.bool a, .bool b, .bool c, .bool d, .bool e, .bool f][j]? = some v → ∀ o, (w1.alloc o).cell? ⟨w.heap.size, j, none⟩ = some v := fun j v hj o => by
    rw [World.cell?_alloc_past _ _ _ (by have := hb.size; simp at this; omega), hb.cell (by simp), World.cell?_alloc_at _ _ _ _ rfl]; simpa using hj
  have c0 := hc 0 _ rfl
  have c1 := hc 1 _ rfl
  have c2 := hc 2 _ rfl
  have c3 := hc 3 _ rfl
  have c4 := hc 4 _ rfl
  have c5 := hc 5 _ rfl
  have HB := Lib.hid (below_then' (below_alloc (Below.refl w.heap.size w) _) hb)
  clear hb hc
  go_wp2_with fail
  refine (most_any a b c d e f _).mono ?_
  rintro r w2 ⟨rfl, hb2⟩
  have H2 := Lib.hid hb2
  clear hb2 c0 c1 c2 c3 c4 c5
  go_wp2_with fail
  go_ret
  exact ⟨rfl, below_then' (below_alloc HB.out _) H2.out⟩

set_option maxRecDepth 100000 in
theorem reflimit_3 (a b c d e f : Bool) (w : World) : Calls Try.prog 18 #[.agg #[.bool a, .bool b, .bool c, .bool d, .bool e, .bool f], .int .i64 3] w (RV (.int .i64 (mostK b)) w) := by
  cases b
  all_goals
    go_enter Try.func18, Try.ntmps18
    go_wp2
    go_ret
    exact ⟨rfl, below_alloc (Below.refl _ _) _⟩

set_option maxRecDepth 100000 in
theorem refleast_3 (w : World) : Calls Try.prog 20 #[.int .i64 3] w (RV (.int .i64 21) w) := by
  go_enter Try.func20, Try.ntmps20
  go_wp2
  go_ret
  exact ⟨rfl, Below.refl _ _⟩

set_option maxRecDepth 100000 in
theorem limit_4 (a b c d e f : Bool) (w : World) : Calls Try.prog 17 #[.agg #[.bool a, .bool b, .bool c, .bool d, .bool e, .bool f], .int .i64 4] w (RV (.int .i64 (19)) w) := by
  go_enter Try.func17, Try.ntmps17
  go_wp2_with fail
  refine (of_4 _).mono ?_
  rintro r w1 ⟨rfl, hb⟩
  have hc : ∀ j v, #[Value.bool a, .bool b, .bool c, .bool d, .bool e, .bool f][j]? = some v → ∀ o, (w1.alloc o).cell? ⟨w.heap.size, j, none⟩ = some v := fun j v hj o => by
    rw [World.cell?_alloc_past _ _ _ (by have := hb.size; simp at this; omega), hb.cell (by simp), World.cell?_alloc_at _ _ _ _ rfl]; simpa using hj
  have c0 := hc 0 _ rfl
  have c1 := hc 1 _ rfl
  have c2 := hc 2 _ rfl
  have c3 := hc 3 _ rfl
  have c4 := hc 4 _ rfl
  have c5 := hc 5 _ rfl
  have HB := Lib.hid (below_then' (below_alloc (Below.refl w.heap.size w) _) hb)
  clear hb hc
  go_wp2_with fail
  go_ret
  exact ⟨rfl, below_alloc HB.out _⟩

set_option maxRecDepth 100000 in
theorem reflimit_4 (a b c d e f : Bool) (w : World) : Calls Try.prog 18 #[.agg #[.bool a, .bool b, .bool c, .bool d, .bool e, .bool f], .int .i64 4] w (RV (.int .i64 (19)) w) := by
  go_enter Try.func18, Try.ntmps18
  go_wp2
  go_ret
  exact ⟨rfl, below_alloc (Below.refl _ _) _⟩

set_option maxRecDepth 100000 in
theorem refleast_4 (w : World) : Calls Try.prog 20 #[.int .i64 4] w (RV (.int .i64 19) w) := by
  go_enter Try.func20, Try.ntmps20
  go_wp2
  go_ret
  exact ⟨rfl, Below.refl _ _⟩

set_option maxRecDepth 100000 in
theorem limit_5 (a b c d e f : Bool) (w : World) : Calls Try.prog 17 #[.agg #[.bool a, .bool b, .bool c, .bool d, .bool e, .bool f], .int .i64 5] w (RV (.int .i64 (23)) w) := by
  go_enter Try.func17, Try.ntmps17
  go_wp2_with fail
  refine (of_5 _).mono ?_
  rintro r w1 ⟨rfl, hb⟩
  have hc : ∀ j v, #[Value.bool a, .bool b, .bool c, .bool d, .bool e, .bool f][j]? = some v → ∀ o, (w1.alloc o).cell? ⟨w.heap.size, j, none⟩ = some v := fun j v hj o => by
    rw [World.cell?_alloc_past _ _ _ (by have := hb.size; simp at this; omega), hb.cell (by simp), World.cell?_alloc_at _ _ _ _ rfl]; simpa using hj
  have c0 := hc 0 _ rfl
  have c1 := hc 1 _ rfl
  have c2 := hc 2 _ rfl
  have c3 := hc 3 _ rfl
  have c4 := hc 4 _ rfl
  have c5 := hc 5 _ rfl
  have HB := Lib.hid (below_then' (below_alloc (Below.refl w.heap.size w) _) hb)
  clear hb hc
  go_wp2_with fail
  go_ret
  exact ⟨rfl, below_alloc HB.out _⟩

set_option maxRecDepth 100000 in
theorem reflimit_5 (a b c d e f : Bool) (w : World) : Calls Try.prog 18 #[.agg #[.bool a, .bool b, .bool c, .bool d, .bool e, .bool f], .int .i64 5] w (RV (.int .i64 (23)) w) := by
  go_enter Try.func18, Try.ntmps18
  go_wp2
  go_ret
  exact ⟨rfl, below_alloc (Below.refl _ _) _⟩

set_option maxRecDepth 100000 in
theorem refleast_5 (w : World) : Calls Try.prog 20 #[.int .i64 5] w (RV (.int .i64 23) w) := by
  go_enter Try.func20, Try.ntmps20
  go_wp2
  go_ret
  exact ⟨rfl, Below.refl _ _⟩

set_option maxRecDepth 100000 in
theorem limit_0 (a b c d e f : Bool) (k : Int) (h : ¬ k = 1 ∧ ¬ k = 2 ∧ ¬ k = 3 ∧ ¬ k = 4 ∧ ¬ k = 5) (w : World) : Calls Try.prog 17 #[.agg #[.bool a, .bool b, .bool c, .bool d, .bool e, .bool f], .int .i64 k] w (RV (.int .i64 (0)) w) := by
  have O : Hid (∀ w, Calls Try.prog 45 #[.int .i64 k] w (RV (.agg #[.string ⟨#[]⟩, .int .i64 0, .int .i64 0, .bool false]) w)) := fun w => rowK0 h ▸ of_any k w
  clear h
  go_enter Try.func17, Try.ntmps17
  go_wp2_with fail
  refine (O.out _).mono ?_
  rintro r w1 ⟨rfl, hb⟩
  have hc : ∀ j v, #[Value.bool a, .bool b, .bool c, .bool d, .bool e, .bool f][j]? = some v → ∀ o, (w1.alloc o).cell? ⟨w.heap.size, j, none⟩ = some v := fun j v hj o => by
    rw [World.cell?_alloc_past _ _ _ (by have := hb.size; simp at this; omega), hb.cell (by simp), World.cell?_alloc_at _ _ _ _ rfl]; simpa using hj
  have c0 := hc 0 _ rfl
  have c1 := hc 1 _ rfl
  have c2 := hc 2 _ rfl
  have c3 := hc 3 _ rfl
  have c4 := hc 4 _ rfl
  have c5 := hc 5 _ rfl
  have HB := Lib.hid (below_then' (below_alloc (Below.refl w.heap.size w) _) hb)
  clear hb hc
  go_wp2_with fail
  go_ret
  exact ⟨rfl, below_alloc HB.out _⟩

set_option maxRecDepth 100000 in
theorem reflimit_0 (a b c d e f : Bool) (k : Int) (h : ¬ k = 1 ∧ ¬ k = 2 ∧ ¬ k = 3 ∧ ¬ k = 4 ∧ ¬ k = 5) (w : World) : Calls Try.prog 18 #[.agg #[.bool a, .bool b, .bool c, .bool d, .bool e, .bool f], .int .i64 k] w (RV (.int .i64 (0)) w) := by
  have k1 : (k == 1) = false := by simpa using h.1
  have k2 : (k == 2) = false := by simpa using h.2.1
  have k3 : (k == 3) = false := by simpa using h.2.2.1
  have k4 : (k == 4) = false := by simpa using h.2.2.2.1
  have k5 : (k == 5) = false := by simpa using h.2.2.2.2
  clear h
  go_enter Try.func18, Try.ntmps18
  go_wp2
  go_ret
  exact ⟨rfl, below_alloc (Below.refl _ _) _⟩

set_option maxRecDepth 100000 in
theorem refleast_0 (k : Int) (h : ¬ k = 1 ∧ ¬ k = 2 ∧ ¬ k = 3 ∧ ¬ k = 4 ∧ ¬ k = 5) (w : World) : Calls Try.prog 20 #[.int .i64 k] w (RV (.int .i64 0) w) := by
  have k1 : (k == 1) = false := by simpa using h.1
  have k2 : (k == 2) = false := by simpa using h.2.1
  have k3 : (k == 3) = false := by simpa using h.2.2.1
  have k4 : (k == 4) = false := by simpa using h.2.2.2.1
  have k5 : (k == 5) = false := by simpa using h.2.2.2.2
  clear h
  go_enter Try.func20, Try.ntmps20
  go_wp2
  go_ret
  exact ⟨rfl, Below.refl _ _⟩

theorem limit_any (a b c d e f : Bool) (k : Int) (w : World) : Calls Try.prog 17 #[.agg #[.bool a, .bool b, .bool c, .bool d, .bool e, .bool f], .int .i64 k] w (RV (.int .i64 (limitK b k)) w) := by
  rcases kinds k with rfl | rfl | rfl | rfl | rfl | h
  · exact limit_1 a b c d e f w
  · exact limit_2 a b c d e f w
  · exact limit_3 a b c d e f w
  · exact limit_4 a b c d e f w
  · exact limit_5 a b c d e f w
  · rw [limitK0 h]; exact limit_0 a b c d e f k h w

theorem reflimit_any (a b c d e f : Bool) (k : Int) (w : World) : Calls Try.prog 18 #[.agg #[.bool a, .bool b, .bool c, .bool d, .bool e, .bool f], .int .i64 k] w (RV (.int .i64 (limitK b k)) w) := by
  rcases kinds k with rfl | rfl | rfl | rfl | rfl | h
  · exact reflimit_1 a b c d e f w
  · exact reflimit_2 a b c d e f w
  · exact reflimit_3 a b c d e f w
  · exact reflimit_4 a b c d e f w
  · exact reflimit_5 a b c d e f w
  · rw [limitK0 h]; exact reflimit_0 a b c d e f k h w

theorem refleast_any (k : Int) (w : World) : Calls Try.prog 20 #[.int .i64 k] w (RV (.int .i64 (leastK k)) w) := by
  rcases kinds k with rfl | rfl | rfl | rfl | rfl | h
  · exact refleast_1 w
  · exact refleast_2 w
  · exact refleast_3 w
  · exact refleast_4 w
  · exact refleast_5 w
  · rw [leastK0 h]; exact refleast_0 k h w

end Go.Proofs.Ytdiiolbkjmhmdaa
