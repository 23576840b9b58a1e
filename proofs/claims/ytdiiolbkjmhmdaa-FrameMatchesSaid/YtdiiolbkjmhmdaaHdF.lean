/- slices.Concat at bytes, octet.Cat. -/
import Derived.Test.YtdiiolbkjmhmdaaHdE
import Derived.Laws.AppendOwnNone
namespace Go.Proofs.Ytdiiolbkjmhmdaa
open Go.RowKit
set_option linter.unusedSimpArgs false
set_option linter.unusedVariables false

/-- The value reads as this list of lists of bytes. -/
def RdBB (w : World) (v : Value) (ps : List (List Int)) : Prop :=
  ps.length ≤ maxB ∧ ∃ A c, v = .slice A ps.length c ∧ (0 < ps.length → ∃ g o, A = some ⟨g, o, none⟩ ∧ g < w.heap.size ∧ ∀ j, j < ps.length → ∃ u, w.cell? ⟨g, o + j, none⟩ = some u ∧ RdB w u (ps.getD j []))
def tot (ps : List (List Int)) (k : Nat) : Nat := (ps.take k).flatten.length
theorem take_flat {ps : List (List Int)} {k : Nat} (h : k < ps.length) : (ps.take (k + 1)).flatten = (ps.take k).flatten ++ ps.getD k [] := by
  rw [List.take_succ_eq_append_getElem h, List.flatten_append]
  simp [List.getD_eq_getElem?_getD, List.getElem?_eq_getElem h]
theorem tot_succ {ps : List (List Int)} {k : Nat} (h : k < ps.length) : tot ps (k + 1) = tot ps k + (ps.getD k []).length := by
  unfold tot; rw [take_flat h]; simp
theorem tot_le (ps : List (List Int)) (k : Nat) : tot ps k ≤ ps.flatten.length := by
  unfold tot
  conv => rhs; rw [← List.take_append_drop k ps]
  rw [List.flatten_append, List.length_append]; omega
theorem tot_all {ps : List (List Int)} {k : Nat} (h : k = ps.length) : (ps.take k).flatten = ps.flatten := by
  rw [List.take_of_length_le (by omega)]
theorem own_step {w1 : World} {b : Nat} {v : Value} {ps : List (List Int)} {k : Nat} (hk : k < ps.length) (h : w1.ownsRow b 5 1 v (tot ps k + (ps.getD k []).length) (bv (ps.take k).flatten ++ bv (ps.getD k []))) :
    w1.ownsRow b 5 1 v (tot ps (k + 1)) (bv (ps.take (k + 1)).flatten) := by
  rw [tot_succ hk, take_flat hk, bv_append]; exact h
theorem own_step0 {w1 : World} {b : Nat} {v : Value} {ps : List (List Int)} {k : Nat} (hk : k < ps.length) (h0 : ps.getD k [] = []) (h : w1.ownsRow b 5 1 v (tot ps k) (bv (ps.take k).flatten)) :
    w1.ownsRow b 5 1 v (tot ps (k + 1)) (bv (ps.take (k + 1)).flatten) := by
  rw [tot_succ hk, take_flat hk, h0, List.append_nil]; exact h

set_option maxRecDepth 100000 in
set_option maxHeartbeats 2000000 in
theorem concat_any (w : World) (v : Value) (ps : List (List Int)) (h1 : RdBB w v ps) (ht : ps.flatten.length ≤ 70368744177664) :
    Calls Try.prog 35 #[v] w (OwnB ps.flatten w) := by
  obtain ⟨iB, hiB, hz0, hz1, hz2⟩ := info_parts Try.infoB
  obtain ⟨m1, A1, c1, rfl, r1⟩ := h1
  unfold maxB at m1
  by_cases h0 : ps.length = 0
  · obtain rfl : ps = [] := List.eq_nil_of_length_eq_zero h0
    have HG := Lib.hid (growB_nil w 0 (by omega))
    go_enter Try.func35, Try.ntmps35
    go_wp2_with fail
    refine wp_loop_rounds 1 ?_
    rw [rounds_succ]
    go_wp2_with fail
    refine HG.out.mono ?_
    rintro r w1 ⟨v, rfl, ho, hb⟩
    go_wp2_with fail
    refine wp_loop_rounds 1 ?_
    rw [rounds_succ]
    go_wp2_with fail
    go_ret
    exact mkOwnB rfl ho hb
  · obtain ⟨g, o, rfl, hg, q⟩ := r1 (by omega)
    obtain ⟨n, hn⟩ : ∃ n, n = ps.length := ⟨_, rfl⟩
    rw [← hn] at m1 h0 q ⊢
    have HN := Lib.hid hn
    have Q := Lib.hid q
    have HT := Lib.hid ht
    have hn63 : (n : Int) ≤ 9223372036854775807 := by omega
    clear hn r1 q ht
    go_enter Try.func35, Try.ntmps35
    go_wp2_with fail
    go_loop [3, 5, 11] (fun s _ i => ∃ k : Nat, k ≤ n ∧ i = .int .i64 k ∧ s = .int .i64 (tot ps k : Nat)) (fun _ _ i => n - (intOf i).toNat)
    case atStart => exact ⟨0, by omega, rfl, by simp [tot]⟩
    case round =>
      obtain ⟨k, hk, rfl, rfl⟩ := hrel
      by_cases hlt : k < n
      · obtain ⟨u, hu, hru⟩ := Q.out k hlt
        obtain ⟨b2, m2, A2, c2, rfl, k2, k2', r2⟩ := hru
        have hs := tot_succ (ps := ps) (k := k) (by rw [← HN.out]; exact hlt)
        have hle := tot_le ps (k + 1)
        have hT := HT.out
        obtain ⟨T, hT'⟩ : ∃ T, T = tot ps k := ⟨_, rfl⟩
        obtain ⟨l, hl⟩ : ∃ l, l = (ps.getD k []).length := ⟨_, rfl⟩
        rw [← hT', ← hl] at hs
        rw [← hT']
        rw [← hl] at hu
        have hb1 : T + l ≤ 70368744177664 := by omega
        have HS := Lib.hid hs
        clear hs hle hT hT' hl r2 k2 m2 b2
        go_wp2_with fail
        go_round
        case rel => exact ⟨k + 1, by omega, by go_num, by rw [HS.out]; go_num⟩
        case measure => simp [intOf]; omega
      · obtain rfl : k = n := by omega
        have hT : tot ps k ≤ 70368744177664 := Nat.le_trans (tot_le ps k) HT.out
        have HG := Lib.hid (growB_nil w (tot ps k) hT)
        go_wp2_with fail
        refine HG.out.mono ?_
        rintro r w1 ⟨v, rfl, ho, hb⟩
        have HO := Lib.hid ho
        have HB := Lib.hid hb
        clear ho hb HG hT
        go_wp2_with fail
        go_loopw [6, 8, 27] (fun v _ i wr => ∃ j : Nat, j ≤ k ∧ i = .int .i64 j ∧ wr.ownsRow w.heap.size 5 1 v (tot ps j) (bv (ps.take j).flatten) ∧ Below w.heap.size w wr) (fun _ _ i _ => k - (intOf i).toNat)
        case atStart => exact ⟨0, by omega, rfl, HO.out, HB.out⟩
        case round =>
          obtain ⟨j, hj, rfl, ho, hb⟩ := hrel
          have HO1 := Lib.hid ho
          have HB1 := Lib.hid hb
          clear ho hb HO HB
          by_cases hlt2 : j < k
          · obtain ⟨u, hu, hru⟩ := Q.out j hlt2
            have hu' : wr.cell? ⟨g, o + j, none⟩ = some u := by rw [HB1.out.cell hg]; exact hu
            obtain ⟨b2, m2, A2, c2, rfl, k2, k2', r2⟩ := hru
            have hs := tot_succ (ps := ps) (k := j) (by rw [← HN.out]; exact hlt2)
            have hle := tot_le ps (j + 1)
            have hT := HT.out
            have hb1 : tot ps j + (ps.getD j []).length ≤ 70368744177664 := by omega
            have HJ := Lib.hid (show j < ps.length by rw [← HN.out]; exact hlt2)
            clear hu hs hle hT k2 m2 b2
            cases A2 with
            | none =>
              have h0 : ps.getD j [] = [] := by
                by_cases h : 0 < (ps.getD j []).length
                · obtain ⟨_, _, e, _⟩ := r2 h; cases e
                · exact List.eq_nil_of_length_eq_zero (by omega)
              have H0 := Lib.hid h0
              rw [h0, k2'.2 rfl, List.length_nil] at hu'
              clear h0 r2 hb1 k2'
              go_wp2_with (at_builtin; refine wpList_append_own_none rfl _ _ 24 rfl w.heap.size 5 iB 1 Try.underlying24 hiB _ _ _ rfl HO1.out rfl ?_)
              go_roundw
              case rel => exact ⟨j + 1, by omega, by go_num, own_step0 HJ.out H0.out HO1.out, HB1.out⟩
              case measure => simp [intOf]; omega
            | some ad =>
              have hc1 : ∀ (i : Nat) u, (bv (ps.getD j []))[i]? = some u → wr.cell? (ad.add i) = some u := fun i u hu => by
                obtain ⟨hi, rfl⟩ := map_get hu
                obtain ⟨g2, o2, e, hg2, hc⟩ := r2 (by omega)
                injection e with e
                subst e
                rw [add_plain', HB1.out.cell hg2]; exact hc i hi
              have HC := Lib.hid hc1
              obtain ⟨l, hl⟩ : ∃ l, l = (ps.getD j []).length := ⟨_, rfl⟩
              rw [← hl] at hu' hb1
              have HL := Lib.hid hl
              clear hc1 r2 k2' hl
              go_wp2_with (at_builtin; refine wpList_append_own _ rfl _ _ 24 rfl w.heap.size 5 iB (.int .u8 0) 1 1 Try.underlying24 hiB hz0 hz1 hz2 rfl (by decide) _ _ _ rfl HO1.out ad l c2 (bv (ps.getD j [])) rfl ?c0 HC.out (u8_one _) ?c3 ?c4 ?c5 ?_)
              case c0 => rw [bv_length, ← HL.out, Nat.mul_one]
              case c3 => unfold maxLen; omega
              case c4 => omega
              case c5 => exact HB1.out.size
              intro v' w2 hown' hgrow _
              have HO2 := Lib.hid hown'
              have HG2 := Lib.hid hgrow
              clear hown' hgrow
              go_wp2_with fail
              go_roundw
              case rel => exact ⟨j + 1, by omega, by go_num, own_step HJ.out (by rw [← HL.out]; exact HO2.out), HB1.out.grown HG2.out HB1.out.size (fun k hk => (HO1.out.lt k hk).1)⟩
              case measure => simp [intOf]; omega
          · obtain rfl : j = k := by omega
            go_wp2_with fail
            go_ret
            refine mkOwnB rfl ?_ HB1.out
            have h := HO1.out
            rw [tot_all HN.out] at h
            have e : tot ps j = ps.flatten.length := by unfold tot; rw [tot_all HN.out]
            rw [e] at h
            exact h

theorem cat_any (w : World) (v : Value) (ps : List (List Int)) (h1 : RdBB w v ps) (ht : ps.flatten.length ≤ 70368744177664) :
    Calls Try.prog 43 #[v] w (OwnB ps.flatten w) := by
  have H := Lib.hid (concat_any w v ps h1 ht)
  obtain ⟨m1, A1, c1, rfl, r1⟩ := h1
  clear m1 r1 ht
  obtain ⟨n, hn⟩ : ∃ n, n = ps.length := ⟨_, rfl⟩
  rw [← hn] at H ⊢
  clear hn
  generalize ps.flatten = xs at H ⊢
  go_enter Try.func43, Try.ntmps43
  go_wp2_with fail
  refine H.out.mono ?_
  rintro r w1 ⟨A, c, rfl, ho, hb⟩
  have HO := Lib.hid ho
  have HB := Lib.hid hb
  clear ho hb
  go_wp2_with fail
  go_ret
  exact ⟨A, c, rfl, HO.out, HB.out⟩

theorem RdB.new (w : World) (g : Nat) (hg : g = w.heap.size) (cs : Array Value) (xs : List Int) (hx : cs.toList = bv xs) (h : ∀ x ∈ xs, 0 ≤ x ∧ x ≤ 255) (hl : xs.length ≤ 100) (n : Nat) (hn : n = xs.length) : RdB (w.alloc (.cells cs 5)) (.slice (some ⟨g, 0, none⟩) n n) xs := by
  subst hn
  refine ⟨h, by unfold maxB; omega, _, _, rfl, Nat.le_refl _, ⟨by omega, fun h => nomatch h⟩, fun _ => ⟨g, 0, rfl, by simp; omega, fun j hj => ?_⟩⟩
  rw [World.cell?_alloc_at _ _ _ _ hg, Nat.zero_add, ← Array.getElem?_toList, hx, bv_at hj]
theorem RdB.one (w : World) (g : Nat) (x : Int) (hx : 0 ≤ x ∧ x ≤ 255) (hg : g = w.heap.size) : RdB (w.alloc (.cells #[.int .u8 x] 5)) (.slice (some ⟨g, 0, none⟩) 1 1) [x] :=
  RdB.new w g hg _ [x] rfl (by intro y hy; simp at hy; omega) (by simp) 1 rfl
theorem RdB.drew {w : World} {v : Value} {xs : List Int} (h : RdB w v xs) : RdB w.drew v xs := h.below (Below.refl _ _).drew
theorem RdB.alloc {w : World} {v : Value} {xs : List Int} (h : RdB w v xs) (o : Obj) : RdB (w.alloc o) v xs := h.below (below_alloc (Below.refl _ _) _)
theorem RdBB.lit2 {w : World} {u0 u1 : Value} {x0 x1 : List Int} (t : TypeId) (g : Nat) (hg : g = w.heap.size) (h0 : RdB (w.alloc (.cells #[u0, u1] t)) u0 x0) (h1 : RdB (w.alloc (.cells #[u0, u1] t)) u1 x1) : RdBB (w.alloc (.cells #[u0, u1] t)) (.slice (some ⟨g, 0, none⟩) 2 2) [x0, x1] := by
  refine ⟨by simp [maxB], _, _, rfl, fun _ => ⟨g, 0, rfl, by simp; omega, fun j hj => ?_⟩⟩
  match j, hj with
  | 0, _ => exact ⟨u0, by rw [World.cell?_alloc_at _ _ _ _ hg]; rfl, h0⟩
  | 1, _ => exact ⟨u1, by rw [World.cell?_alloc_at _ _ _ _ hg]; rfl, h1⟩
theorem RdBB.lit3 {w : World} {u0 u1 u2 : Value} {x0 x1 x2 : List Int} (t : TypeId) (g : Nat) (hg : g = w.heap.size) (h0 : RdB (w.alloc (.cells #[u0, u1, u2] t)) u0 x0) (h1 : RdB (w.alloc (.cells #[u0, u1, u2] t)) u1 x1) (h2 : RdB (w.alloc (.cells #[u0, u1, u2] t)) u2 x2) : RdBB (w.alloc (.cells #[u0, u1, u2] t)) (.slice (some ⟨g, 0, none⟩) 3 3) [x0, x1, x2] := by
  refine ⟨by simp [maxB], _, _, rfl, fun _ => ⟨g, 0, rfl, by simp; omega, fun j hj => ?_⟩⟩
  match j, hj with
  | 0, _ => exact ⟨u0, by rw [World.cell?_alloc_at _ _ _ _ hg]; rfl, h0⟩
  | 1, _ => exact ⟨u1, by rw [World.cell?_alloc_at _ _ _ _ hg]; rfl, h1⟩
  | 2, _ => exact ⟨u2, by rw [World.cell?_alloc_at _ _ _ _ hg]; rfl, h2⟩

end Go.Proofs.Ytdiiolbkjmhmdaa
