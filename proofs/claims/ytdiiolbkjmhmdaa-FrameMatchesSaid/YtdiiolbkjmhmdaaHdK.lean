/- The chapter's example holds. -/
import Derived.Test.YtdiiolbkjmhmdaaHdJ
namespace Go.Proofs.Ytdiiolbkjmhmdaa
open Go.RowKit
set_option linter.unusedSimpArgs false
set_option linter.unusedVariables false

def aliveL : List Int := [255, 255, 255, 255, 255, 255, 255, 255, 255, 255, 255, 255, 255, 255, 255, 255, 0, 19, 4]
theorem aliveL_eq : hbytes 19 4 ++ [] = aliveL := by simp [hbytes, m16, aliveL]
set_option maxRecDepth 100000 in
set_option maxHeartbeats 4000000 in
theorem alive_any (w : World) : Calls Try.prog 15 #[] w (RB true w) := by
  have CW := Lib.hid (wrap_ok none 0 0 [] (by simp [maxB]) 4 false false false false false false (leastK 4) (limitK false 4) 19 rfl (by decide) (by decide) (by decide) (by decide) ⟨by omega, by omega⟩ (Lib.hid (least_any 4)) (Lib.hid (limit_any false false false false false false 4)))
  go_enter Try.func15, Try.ntmps15
  go_wp2_with fail
  refine (CW.out _ (RdB.nil _ none 0 ⟨by omega, fun _ => rfl⟩)).mono ?_
  rintro r w1 ⟨A, c, rfl, ho, hb⟩
  rw [aliveL_eq] at ho ⊢
  have hr := RdB.own ho (by intro x hx; simp [aliveL] at hx; omega) (by simp [aliveL, maxB])
  have el : aliveL.length = 19 := rfl
  obtain ⟨-, -, A', c', e, hc, hc2, hcell⟩ := hr
  obtain ⟨g, o, e2, hg, hcells⟩ := hcell (by rw [el]; omega)
  injection e with e3 e4 e5
  subst e3 e2
  rw [el] at hcells ⊢
  have HB := Lib.hid hb
  have k0 : w1.cell? ⟨g, o, none⟩ = some (.int .u8 255) := hcells 0 (by omega)
  have k15 : w1.cell? ⟨g, o + 15, none⟩ = some (.int .u8 255) := hcells 15 (by omega)
  have k16 : w1.cell? ⟨g, o + 16, none⟩ = some (.int .u8 0) := hcells 16 (by omega)
  have k17 : w1.cell? ⟨g, o + 17, none⟩ = some (.int .u8 19) := hcells 17 (by omega)
  have k18 : w1.cell? ⟨g, o + 18, none⟩ = some (.int .u8 4) := hcells 18 (by omega)
  clear ho hb hcells hcell hc hc2 el e5 CW e4 hg
  go_wp2_with fail
  go_ret
  exact ⟨rfl, HB.out⟩

end Go.Proofs.Ytdiiolbkjmhmdaa
