/- The small functions of the package option and of its reference: what each returns, in whatever memory. -/
import Derived.Test.YtagopeefobefnaaOptB
import Derived.Test.YtagopeefobefnaaOptC
import Derived.BigQuiet
import Derived.Deep.QuietTactic
namespace Go.Proofs.Ytagopeefobefnaa
open Go.RowKit
set_option linter.unusedSimpArgs false

set_option maxRecDepth 100000 in
theorem valid_any (a b c d e f : Bool) (w : World) : Calls Try.prog 8 #[.agg #[.bool a, .bool b, .bool c, .bool d, .bool e, .bool f]] w (RB (d || !f) w) := by
  cases d <;> cases f
  all_goals
    go_enter Try.func8, Try.ntmps8
    go_wp2
    go_ret
    exact ⟨rfl, (Below.refl _ _).alloc (Nat.le_refl _) _⟩

set_option maxRecDepth 100000 in
theorem refvalid_any (a b c d e f : Bool) (w : World) : Calls Try.prog 9 #[.agg #[.bool a, .bool b, .bool c, .bool d, .bool e, .bool f]] w (RB (d || !f) w) := by
  cases d <;> cases f
  all_goals
    go_enter Try.func9, Try.ntmps9
    go_wp2
    go_ret
    exact ⟨rfl, (Below.refl _ _).alloc (Nat.le_refl _) _⟩

set_option maxRecDepth 100000 in
set_option maxHeartbeats 1000000 in
theorem alive_any (w : World) : Calls Try.prog 6 #[] w (RB true w) := by
  have h1 : ((text true false false true false false).toList == [97, 115, 52, 32, 109, 112, 54]) = true := by kernel_rfl
  have h2 : ((text false false false false false false).toList == [45]) = true := by kernel_rfl
  have t1 := Lib.hid (text_any true false false true false false)
  have t2 := Lib.hid (text_any false false false false false false)
  generalize text true false false true false false = s1 at h1 t1
  generalize text false false false false false false = s2 at h2 t2
  go_enter Try.func6, Try.ntmps6
  go_wp2_with fail
  refine (t1.out _).mono ?_
  rintro r w1 ⟨rfl, hb1⟩
  have H1 := Lib.hid hb1
  clear hb1
  go_wp2_with fail
  refine (t2.out _).mono ?_
  rintro r w2 ⟨rfl, hb2⟩
  have H2 := Lib.hid hb2
  clear hb2
  go_wp2_with fail
  go_ret
  exact ⟨rfl, below_then' H1.out H2.out⟩

end Go.Proofs.Ytagopeefobefnaa
