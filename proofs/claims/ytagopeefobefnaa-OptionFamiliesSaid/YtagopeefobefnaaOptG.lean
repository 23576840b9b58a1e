/- The small functions that the law OptionFamilies calls. -/
import Derived.Test.YtagopeefobefnaaOptD
namespace Go.Proofs.Ytagopeefobefnaa
open Go.RowKit
set_option linter.unusedSimpArgs false
set_option linter.unusedVariables false

def famB (n : Int) (x y : Bool) : Bool := if n = 1 then x else if n = 2 then y else false
theorem famB1 (x y : Bool) : famB 1 x y = x := by simp [famB]
theorem famB2 (x y : Bool) : famB 2 x y = y := by simp [famB]
theorem famB0 {n : Int} (h1 : ¬ n = 1) (h2 : ¬ n = 2) (x y : Bool) : famB n x y = false := by simp [famB, h1, h2]
theorem rb_eq {x y : Bool} {w : World} {r : Ending} {w' : World} (h : RB x w r w') (e : y = x) : RB y w r w' := e ▸ h

set_option maxRecDepth 100000 in
theorem has_any (n : Int) (x y : Bool) (w : World) : Calls Try.prog 22 #[.int .i64 n, .bool x, .bool y] w (RB (famB n x y) w) := by
  by_cases h1 : n = 1
  · subst h1
    refine Calls.mono (R := RB x w) ?_ fun r w' h => rb_eq h (famB1 x y)
    go_enter Try.func22, Try.ntmps22
    go_wp2
    go_ret
    exact ⟨rfl, Below.refl _ _⟩
  · by_cases h2 : n = 2
    · subst h2
      refine Calls.mono (R := RB y w) ?_ fun r w' h => rb_eq h (famB2 x y)
      go_enter Try.func22, Try.ntmps22
      go_wp2
      go_ret
      exact ⟨rfl, Below.refl _ _⟩
    · refine Calls.mono (R := RB false w) ?_ fun r w' h => rb_eq h (famB0 h1 h2 x y)
      have k1 : (n == 1) = false := by simpa using h1
      have k2 : (n == 2) = false := by simpa using h2
      clear h1 h2
      go_enter Try.func22, Try.ntmps22
      go_wp2
      go_ret
      exact ⟨rfl, Below.refl _ _⟩

set_option maxRecDepth 100000 in
theorem mp_any (a b c d e f : Bool) (n : Int) (w : World) : Calls Try.prog 11 #[.agg #[.bool a, .bool b, .bool c, .bool d, .bool e, .bool f], .int .i64 n] w (RB (famB n c d) w) := by
  go_enter Try.func11, Try.ntmps11
  go_wp2_with fail
  refine (has_any n c d _).mono ?_
  rintro r w1 ⟨rfl, hb⟩
  have HB := Lib.hid hb
  clear hb
  go_wp2_with fail
  go_ret
  exact ⟨rfl, below_then' (below_alloc (Below.refl _ _) _) HB.out⟩

set_option maxRecDepth 100000 in
theorem refmp_any (a b c d e f : Bool) (n : Int) (w : World) : Calls Try.prog 10 #[.agg #[.bool a, .bool b, .bool c, .bool d, .bool e, .bool f], .int .i64 n] w (RB (famB n c d) w) := by
  by_cases h1 : n = 1
  · subst h1
    refine Calls.mono (R := RB c w) ?_ fun r w' h => rb_eq h (famB1 c d)
    cases c
    all_goals
      go_enter Try.func10, Try.ntmps10
      go_wp2
      go_ret
      exact ⟨rfl, below_alloc (Below.refl _ _) _⟩
  · by_cases h2 : n = 2
    · subst h2
      refine Calls.mono (R := RB d w) ?_ fun r w' h => rb_eq h (famB2 c d)
      cases d
      all_goals
        go_enter Try.func10, Try.ntmps10
        go_wp2
        go_ret
        exact ⟨rfl, below_alloc (Below.refl _ _) _⟩
    · refine Calls.mono (R := RB false w) ?_ fun r w' h => rb_eq h (famB0 h1 h2 c d)
      have k1 : (n == 1) = false := by simpa using h1
      have k2 : (n == 2) = false := by simpa using h2
      clear h1 h2
      go_enter Try.func10, Try.ntmps10
      go_wp2
      go_ret
      exact ⟨rfl, below_alloc (Below.refl _ _) _⟩

set_option maxRecDepth 100000 in
theorem add_any (a b c d e f : Bool) (n : Int) (w : World) : Calls Try.prog 12 #[.agg #[.bool a, .bool b, .bool c, .bool d, .bool e, .bool f], .int .i64 n] w (RB (famB n e f) w) := by
  go_enter Try.func12, Try.ntmps12
  go_wp2_with fail
  refine (has_any n e f _).mono ?_
  rintro r w1 ⟨rfl, hb⟩
  have HB := Lib.hid hb
  clear hb
  go_wp2_with fail
  go_ret
  exact ⟨rfl, below_then' (below_alloc (Below.refl _ _) _) HB.out⟩

set_option maxRecDepth 100000 in
theorem refadd_any (a b c d e f : Bool) (n : Int) (w : World) : Calls Try.prog 13 #[.agg #[.bool a, .bool b, .bool c, .bool d, .bool e, .bool f], .int .i64 n] w (RB (famB n e f) w) := by
  by_cases h1 : n = 1
  · subst h1
    refine Calls.mono (R := RB e w) ?_ fun r w' h => rb_eq h (famB1 e f)
    cases e
    all_goals
      go_enter Try.func13, Try.ntmps13
      go_wp2
      go_ret
      exact ⟨rfl, below_alloc (Below.refl _ _) _⟩
  · by_cases h2 : n = 2
    · subst h2
      refine Calls.mono (R := RB f w) ?_ fun r w' h => rb_eq h (famB2 e f)
      cases f
      all_goals
        go_enter Try.func13, Try.ntmps13
        go_wp2
        go_ret
        exact ⟨rfl, below_alloc (Below.refl _ _) _⟩
    · refine Calls.mono (R := RB false w) ?_ fun r w' h => rb_eq h (famB0 h1 h2 e f)
      have k1 : (n == 1) = false := by simpa using h1
      have k2 : (n == 2) = false := by simpa using h2
      clear h1 h2
      go_enter Try.func13, Try.ntmps13
      go_wp2
      go_ret
      exact ⟨rfl, below_alloc (Below.refl _ _) _⟩

set_option maxRecDepth 100000 in
theorem width_any (a b c d e f : Bool) (w : World) : Calls Try.prog 14 #[.agg #[.bool a, .bool b, .bool c, .bool d, .bool e, .bool f]] w (RV (.int .i64 (if a = true then 4 else 2)) w) := by
  cases a
  all_goals
    go_enter Try.func14, Try.ntmps14
    go_wp2
    go_ret
    exact ⟨rfl, below_alloc (Below.refl _ _) _⟩

set_option maxRecDepth 100000 in
theorem refwidth_any (a b c d e f : Bool) (w : World) : Calls Try.prog 15 #[.agg #[.bool a, .bool b, .bool c, .bool d, .bool e, .bool f]] w (RV (.int .i64 (if a = true then 4 else 2)) w) := by
  cases a
  all_goals
    go_enter Try.func15, Try.ntmps15
    go_wp2
    go_ret
    exact ⟨rfl, below_alloc (Below.refl _ _) _⟩

/-- The families: IPv4, and IPv6 behind it where d says so, in a row of the call's own. -/
def fams (d : Bool) : List Value := if d = true then [.int .i64 1, .int .i64 2] else [.int .i64 1]
def OwnPost (t : TypeId) (n : Nat) (xs : List Value) (w : World) (r : Ending) (w' : World) : Prop := ∃ v, r = .returned v ∧ w'.ownsRow w.heap.size t 1 v n xs ∧ Below w.heap.size w w'
theorem Try.infoInt : (Try.prog.info? 3).map (fun i => (i.zero, i.size, i.bytes)) = some (some (.int .i64 0), 1, 8) := by kernel_rfl
theorem own_lit (w : World) (base n : Nat) (x : Value) (t : TypeId) (hn : n = w.heap.size) (hb : base ≤ w.heap.size) : (w.alloc (.cells #[x] t)).ownsRow base t 1 (.slice (some ⟨n, 0, none⟩) 1 1) 1 [x] := by
  subst hn
  exact ⟨rfl, .inr ⟨w.heap.size, 1, #[x], rfl, hb, heap_alloc_new w _, Nat.le_refl _, by unfold maxLen; omega, rfl, rfl⟩⟩

set_option maxRecDepth 100000 in
theorem families_any (a b c d e f : Bool) (w : World) : Calls Try.prog 17 #[.agg #[.bool a, .bool b, .bool c, .bool d, .bool e, .bool f]] w (OwnPost 3 (fams d).length (fams d) w) := by
  obtain ⟨iI, hiI, hz0, hz1, hz2⟩ := info_parts Try.infoInt
  cases d
  · go_enter Try.func17, Try.ntmps17
    go_wp2
    go_ret
    exact ⟨_, rfl, own_lit _ w.heap.size (w.heap.size + 1) (.int .i64 1) 3 (by simp) (by simp), below_alloc (below_alloc (Below.refl _ _) _) _⟩
  · have ho := own_lit (w.alloc (.cells #[.bool a, .bool b, .bool c, .bool true, .bool e, .bool f] 23)) w.heap.size (w.heap.size + 1) (.int .i64 1) 3 (by simp) (by simp)
    have HO := Lib.hid (ho.alloc (.cells #[.int .i64 2] 3))
    clear ho
    go_enter Try.func17, Try.ntmps17
    go_wp2_with (at_builtin; refine wpList_append_own _ rfl _ _ 28 rfl w.heap.size 3 iI (.int .i64 0) 1 8 Try.underlying28 hiI hz0 hz1 hz2 rfl (by decide) _ _ _ rfl HO.out ⟨w.heap.size + 1 + 1, 0, none⟩ 1 1 [.int .i64 2] rfl rfl ?c1 ?c2 ?c3 ?c4 ?c5 ?_)
    case c1 => intro j u hj; match j, hj with | 0, hj => (simp at hj; subst hj; rw [add_plain, World.cell?_alloc_at _ _ _ _ (by simp)]; rfl) | j + 1, hj => simp at hj
    case c2 => simp [Value.oneCell']
    case c3 => unfold maxLen; omega
    case c4 => omega
    case c5 => simp; omega
    intro v' w1 hown' hgrow _
    have HO1 := Lib.hid hown'
    have HG := Lib.hid hgrow
    clear hown' hgrow
    go_wp2
    go_ret
    exact ⟨_, rfl, HO1.out, (below_alloc (below_alloc (below_alloc (Below.refl _ _) _) _) _).grown HG.out (by simp; omega) (fun k hk => (HO.out.lt k hk).1)⟩

end Go.Proofs.Ytagopeefobefnaa
