/- The reference's Bytes. -/
import Derived.Test.YtdiiolbkjmhmdaaHdH
namespace Go.Proofs.Ytdiiolbkjmhmdaa
open Go.RowKit
set_option linter.unusedSimpArgs false
set_option linter.unusedVariables false

set_option maxRecDepth 100000 in
theorem refbytes_bad (n k : Int) (h : n < 0 ∨ 65535 < n ∨ k < 0 ∨ 255 < k) (w : World) : Calls Try.prog 14 #[.int .i64 n, .int .i64 k] w (RV (.tuple #[.slice none 0 0, .bool false]) w) := by
  by_cases h1 : n < 0
  · clear h
    go_enter Try.func14, Try.ntmps14
    go_wp2_with fail
    go_ret2
    exact ⟨rfl, Below.refl _ _⟩
  · by_cases h2 : 65535 < n
    · clear h
      go_enter Try.func14, Try.ntmps14
      go_wp2_with fail
      go_ret2
      exact ⟨rfl, Below.refl _ _⟩
    · by_cases h3 : k < 0
      · clear h
        go_enter Try.func14, Try.ntmps14
        go_wp2_with fail
        go_ret2
        exact ⟨rfl, Below.refl _ _⟩
      · have h4 : 255 < k := by omega
        clear h
        go_enter Try.func14, Try.ntmps14
        go_wp2_with fail
        go_ret2
        exact ⟨rfl, Below.refl _ _⟩

def rep (j : Nat) : List Int := List.replicate j 255
theorem rep_length (j : Nat) : (rep j).length = j := by simp [rep]
theorem bv_rep (j : Nat) : bv (rep j) ++ [.int .u8 255] = bv (rep (j + 1)) := by
  unfold bv rep; rw [List.replicate_succ', List.map_append]; rfl
theorem rep_own {w1 : World} {b : Nat} {v : Value} {j : Nat} (h : w1.ownsRow b 5 1 v (j + 1) (bv (rep j) ++ [.int .u8 255])) : w1.ownsRow b 5 1 v (j + 1) (bv (rep (j + 1))) := bv_rep j ▸ h
theorem bytes_own {w1 : World} {b : Nat} {v : Value} {n k : Int} (h : w1.ownsRow b 5 1 v (16 + 3) (bv (rep 16) ++ [.int .u8 (n / 256), .int .u8 (n % 256), .int .u8 k])) : w1.ownsRow b 5 1 v (hbytes n k).length (bv (hbytes n k)) := by
  have e : bv (hbytes n k) = bv (rep 16) ++ [.int .u8 (n / 256), .int .u8 (n % 256), .int .u8 k] := by
    simp [hbytes, bv, rep, m16]
  rw [e]; exact h

set_option maxRecDepth 100000 in
set_option maxHeartbeats 2000000 in
theorem refbytes_ok (n k : Int) (h1 : 0 ≤ n) (h2 : n ≤ 65535) (h3 : 0 ≤ k) (h4 : k ≤ 255) (w : World) : Calls Try.prog 14 #[.int .i64 n, .int .i64 k] w (OwnBT (hbytes n k) true w) := by
  obtain ⟨iB, hiB, hz0, hz1, hz2⟩ := info_parts Try.infoB
  go_enter Try.func14, Try.ntmps14
  go_wp2_with fail
  go_loopw [6, 7] (fun v i wr => ∃ j : Nat, j ≤ 16 ∧ i = .int .i64 j ∧ wr.ownsRow w.heap.size 5 1 v j (bv (rep j)) ∧ Below w.heap.size w wr) (fun _ i _ => 16 - (intOf i).toNat)
  case atStart => exact ⟨0, by omega, rfl, own_nil _ _ _ _, Below.refl _ _⟩
  case round =>
    obtain ⟨j, hj, rfl, ho, hb⟩ := hrel
    have HO := Lib.hid (ho.alloc (.cells #[.int .u8 255] 5))
    have HO0 := Lib.hid ho
    have HB := Lib.hid hb
    have HS := Lib.hid hb.size
    clear ho hb
    by_cases hlt : j < 16
    · go_wp2_with (at_builtin; refine wpList_append_own _ rfl _ _ 24 rfl w.heap.size 5 iB (.int .u8 0) 1 1 Try.underlying24 hiB hz0 hz1 hz2 rfl (by decide) _ _ _ rfl HO.out ⟨wr.heap.size, 0, none⟩ 1 1 [.int .u8 255] rfl rfl ?c1 ?c2 ?c3 ?c4 ?c5 ?_)
      case c1 => intro i u hu; match i, hu with | 0, hu => (simp at hu; subst hu; rw [add_plain, World.cell?_alloc_at _ _ _ _ (by simp)]; rfl) | i + 1, hu => simp at hu
      case c2 => simp [Value.oneCell']
      case c3 => unfold maxLen; omega
      case c4 => omega
      case c5 => have := HS.out; simp; omega
      intro v' w1 hown' hgrow _
      have HO1 := Lib.hid hown'
      have HG := Lib.hid hgrow
      clear hown' hgrow
      go_wp2_with fail
      go_roundw
      case rel => exact ⟨j + 1, by omega, by go_num, rep_own HO1.out, (below_alloc' HB.out (Nat.le_refl _) _).grown HG.out (by have := HS.out; simp; omega) (fun k hk => (HO.out.lt k hk).1)⟩
      case measure => simp [intOf]; omega
    · obtain rfl : j = 16 := by omega
      have HO3 := Lib.hid (HO0.out.alloc (.cells #[.int .u8 (n / 256), .int .u8 (n % 256), .int .u8 k] 5))
      have e1 : IntKind.u8.wrap (n / 256) = n / 256 := by rw [IntKind.wrap_u8]; omega
      have e2 : IntKind.u8.wrap (n % 256) = n % 256 := by rw [IntKind.wrap_u8]; omega
      have e3 : IntKind.u8.wrap k = k := by rw [IntKind.wrap_u8]; omega
      go_wp2_with (at_builtin; refine wpList_append_own _ rfl _ _ 24 rfl w.heap.size 5 iB (.int .u8 0) 1 1 Try.underlying24 hiB hz0 hz1 hz2 rfl (by decide) _ _ _ rfl HO3.out ⟨wr.heap.size, 0, none⟩ 3 3 [.int .u8 (n / 256), .int .u8 (n % 256), .int .u8 k] rfl rfl ?c1 ?c2 ?c3 ?c4 ?c5 ?_)
      case c1 => intro i u hu; rw [add_plain, World.cell?_alloc_at _ _ _ _ (by simp)]; simpa using hu
      case c2 => simp [Value.oneCell']
      case c3 => unfold maxLen; omega
      case c4 => omega
      case c5 => have := HS.out; simp; omega
      intro v' w1 hown' hgrow _
      have HO1 := Lib.hid hown'
      have HG := Lib.hid hgrow
      clear hown' hgrow
      go_wp2_with fail
      go_ret2
      exact mkOwnBT rfl (bytes_own HO1.out) ((below_alloc' HB.out (Nat.le_refl _) _).grown HG.out (by have := HS.out; simp; omega) (fun k hk => (HO3.out.lt k hk).1))

end Go.Proofs.Ytdiiolbkjmhmdaa
