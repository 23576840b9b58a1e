/- For all operations, the events and the state of a framer are those of the reference: the law FrameMatches answers true, for every record of options and every slice of operations in whatever memory; nothing that was there is written. No condition. -/
import Derived.Test.YtdiiolbkjmhmdaaMaB
import Derived.SizedLaws
import Derived.Test.YtdiiolbkjmhmdaaOpE
namespace Go.Proofs.Ytdiiolbkjmhmdaa
open Go.ChangeShapes Go.WideShapes Go.ChangeAt Go.RowKit
set_option linter.unusedVariables false

set_option maxRecDepth 100000 in
theorem frameMatches_lifted (os : Os) (started : os.Started) (H : Type) (enc : TypeId × Value → H) :
    ReturnsInHanded {} Try.checked os 10 .any (Rows.frameMatchesSpec.pre6 enc Try.prog Try.f10 Rows.frameMatchesRow.domain false) (Rows.frameMatchesSpec.post enc Try.prog Try.f10 false true false false) := by
  refine returnsInHanded_of_change_sized (C := Try.checked) own started (by kernel_rfl) Try.func10
    (ChangeSpec.witness6 (enc := enc) (C := Try.checked) false ⟨#[], #[.agg #[.bool false, .bool false, .bool false, .bool false, .bool false, .bool false], .slice none 0 0], []⟩ 8 (by kernel_rfl) (by kernel_rfl) (by kernel_rfl) (by kernel_rfl)) ?_
  intro W base args ds gs before hval0 hW hcnd hsz0 _
  have hval : ∀ (j : Nat) t v, Try.f10.params[j]? = some t → args[j]? = some v → Value.okWide Try.prog W .any base t v := hval0
  have hW' := hW
  obtain ⟨p, q, hA0, hV, rfl, hfz, hnd⟩ := hW
  have hA : DataW.TrodAll enc Try.prog W 0 (fun _ => true) true Try.f10.params.toList args.toList ds p := hA0
  rw [Try.params10] at hA hval
  obtain ⟨v0, vs0, d0, ds0, p0, q0, hargs, rfl, rfl, h0, r0⟩ := trodAll_cons hA
  obtain ⟨v1, vs1, d1, ds1, p1, q1, rfl, rfl, rfl, h1, r1⟩ := trodAll_cons r0
  obtain ⟨rfl, rfl, rfl⟩ := trodAll_nil r1
  obtain rfl : args = #[v0, v1] := by cases args; simp_all
  obtain ⟨rfl, rfl⟩ := trodVars_none hV
  have lt0 : ∀ x ∈ p0, x.block < W.heap.size := by obtain ⟨m, hm⟩ := h0; exact DataW.trod_lt m _ _ _ hm
  have k0 := h0
  obtain ⟨a0, b0, c0, e0, f0, g0, rfl⟩ := open_opts (hval 0 23 v0 rfl rfl) h0
  have lt1 : ∀ x ∈ p1, x.block < W.heap.size := by obtain ⟨m, hm⟩ := h1; exact DataW.trod_lt m _ _ _ hm
  have k1 := h1
  obtain ⟨A1, l1, cap1, os1, rfl, s1, R1, D1⟩ := open_ops (hval 1 69 v1 rfl rfl) h1
  have hsz : (DataW.weightsEach Try.prog (Try.f10.params.toList ++ Rows.frameMatchesSpec.plain.varTypes Try.prog) _).all (· ≤ reachBytes) = true := hsz0
  rw [Try.params10] at hsz
  have hn1 : l1 ≤ 4000000000000 := by
    rcases D1 with h | ⟨E, Sp, hd, hE⟩
    · omega
    · have h1 := sized_slice hsz (j := 1) (t := 69) (e := 71) (elems := E) (spare := Sp) rfl (by rw [hd]; rfl) Try.underlying69
      have h2 : Try.prog.bytesOf 71 = 40 := by kernel_rfl
      rw [h2, hE] at h1
      have h3 := reachBytes_lt
      omega
  clear hA0 hval0
  refine (matches_any a0 b0 c0 e0 f0 g0 A1 l1 cap1 os1 W R1 hn1).mono fun e W' ⟨he, bel⟩ => ?_
  subst he
  exact ⟨_, rfl, _, _, _, [], _, [], hW', trodAll_mk1 (shut_bool Try.underlying4 _), (trodAll_cons_mk (Below.trod laidOut (by kernel_rfl) (of_decide_eq_true (by kernel_rfl)) k0 bel lt0) (trodAll_cons_mk (Below.trod laidOut (by kernel_rfl) (of_decide_eq_true (by kernel_rfl)) k1 bel lt1) trodAll_mk0)), rfl, bel.frame _, fun h => by cases h⟩

theorem frameMatches_holds : Rows.FrameMatchesSaid :=
  OpenClaim.holds_of_wide 10 Try.f10 rfl rfl rfl rfl rfl rfl rfl ⟨rfl, rfl, rfl, rfl, rfl⟩ rfl rfl rfl rfl rfl (by kernel_rfl) Try.func10 (by kernel_rfl)
    (of_decide_eq_true (by kernel_rfl)) (by unfold Func.isWrapper; first | (rw [if_pos (by decide +kernel)]; kernel_rfl) | (rw [if_neg (by decide +kernel)]; exact ⟨rfl, rfl⟩))
    (fun os started H enc _ => frameMatches_lifted os started H enc)

end Go.Proofs.Ytdiiolbkjmhmdaa
