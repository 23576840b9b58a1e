/- The reference's Same on verdicts whose numbers are equal and whose data read alike. -/
import Derived.Test.YtdiiolbkjmhmdaaHdR
import Derived.Laws.BytesArg
namespace Go.Proofs.Ytdiiolbkjmhmdaa
open Go.RowKit
set_option linter.unusedSimpArgs false
set_option linter.unusedVariables false

theorem conv_rd {w : World} {v : Value} {xs : List Int} (h : RdB w v xs) : (convert 24 9 v).run Try.prog w = .ok (.string (strOfNums xs)) w := by
  obtain ⟨h1, h2, A, c, rfl, h3, h4, h5⟩ := h
  by_cases h0 : 0 < xs.length
  · obtain ⟨g, o, rfl, hg, hc⟩ := h5 h0
    exact run_convert_bytes_arg w 24 5 Try.underlying24 Try.underlying5 g o xs.length c xs rfl hc 9 Try.underlying9
  · obtain rfl : xs = [] := List.eq_nil_of_length_eq_zero (by omega)
    cases A with
    | none =>
      have := run_convert_bytes_nil w 24 5 Try.underlying24 Try.underlying5 0 c 9 Try.underlying9
      exact this
    | some a =>
      have h : (loadCells a 0).run Try.prog w = .ok (([] : List Int).map (Value.int .u8)).toArray w := run_loadCells_list (P := Try.prog) w a [] (fun j v hj => by simp at hj)
      have := run_bytesToString w a 0 c [] h
      rw [← run_convert_bytes_string w 24 9 5 (some a) 0 c Try.underlying24 Try.underlying5 Try.underlying9] at this
      exact this
set_option maxRecDepth 100000 in
theorem same1_any (w : World) (A1 A2 : Option Addr) (n c1 c2 : Nat) (xs : List Int) (h1 : RdB w (.slice A1 n c1) xs) (h2 : RdB w (.slice A2 n c2) xs) :
    Calls Try.prog 54 #[.slice A1 n c1, .slice A2 n c2] w (RB true w) := by
  have e1 := conv_rd h1
  have e2 := conv_rd h2
  obtain ⟨s, hs⟩ : ∃ s, s = strOfNums xs := ⟨_, rfl⟩
  rw [← hs] at e1 e2
  clear hs h1 h2
  go_enter Try.func54, Try.ntmps54
  go_wp2_with fail
  go_ret
  exact ⟨rfl, Below.refl _ _⟩
set_option maxRecDepth 100000 in
set_option maxHeartbeats 4000000 in
theorem same_any (w : World) (a b c e : Int) (A1 A2 : Option Addr) (n c1 c2 : Nat) (xs : List Int) (h1 : RdB w (.slice A1 n c1) xs) (h2 : RdB w (.slice A2 n c2) xs) :
    Calls Try.prog 24 #[.agg #[.int .i64 a, .int .i64 b, .int .i64 c, .slice A1 n c1, .int .i64 e], .agg #[.int .i64 a, .int .i64 b, .int .i64 c, .slice A2 n c2, .int .i64 e]] w (RB true w) := by
  have H1 := Lib.hid h1
  have H2 := Lib.hid h2
  clear h1 h2
  go_enter Try.func24, Try.ntmps24
  go_wp2_with fail
  refine (same1_any _ A1 A2 n c1 c2 xs (H1.out.below (below_alloc (below_alloc (Below.refl _ _) _) _)) (H2.out.below (below_alloc (below_alloc (Below.refl _ _) _) _))).mono ?_
  rintro r w1 ⟨rfl, hb⟩
  have HB := Lib.hid (below_then' (below_alloc (below_alloc (Below.refl _ _) _) _) hb)
  clear hb
  go_wp2_with fail
  go_ret
  exact ⟨rfl, HB.out⟩

end Go.Proofs.Ytdiiolbkjmhmdaa
