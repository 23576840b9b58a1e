/- Slices of bytes that are made: slices.Clone, slices.Grow at nil. -/
import Derived.Test.YtdiiolbkjmhmdaaHdD
import Derived.Lib.SliceRun
import Derived.Lib.AppendZerosOnto
namespace Go.Proofs.Ytdiiolbkjmhmdaa
open Go.RowKit
set_option linter.unusedSimpArgs false
set_option linter.unusedVariables false

/-- What a function that answers a row of bytes of its own leaves behind. -/
def OwnB (xs : List Int) (w : World) (r : Ending) (w' : World) : Prop := ∃ A c, r = .returned (.slice A xs.length c) ∧ w'.ownsRow w.heap.size 5 1 (.slice A xs.length c) xs.length (bv xs) ∧ Below w.heap.size w w'
theorem own_form {w : World} {b : Nat} {e : TypeId} {size n : Nat} {v : Value} {xs : List Value} (h : w.ownsRow b e size v n xs) : ∃ A c, v = .slice A n c := by
  rcases h.2 with ⟨rfl, rfl⟩ | ⟨g, cap, cur, rfl, _⟩
  · exact ⟨_, _, rfl⟩
  · exact ⟨_, _, rfl⟩
theorem own_mono {w : World} {b b' : Nat} {e : TypeId} {size n : Nat} {v : Value} {xs : List Value} (h : w.ownsRow b e size v n xs) (hb : b' ≤ b) : w.ownsRow b' e size v n xs := by
  obtain ⟨h1, h2⟩ := h
  refine ⟨h1, ?_⟩
  rcases h2 with h2 | ⟨g, cap, cur, hv, hg, r⟩
  · exact .inl h2
  · exact .inr ⟨g, cap, cur, hv, by omega, r⟩
theorem mkOwnB {xs : List Int} {w w' : World} {r : Ending} {v : Value} (e : r = .returned v) (h : w'.ownsRow w.heap.size 5 1 v xs.length (bv xs)) (hb : Below w.heap.size w w') : OwnB xs w r w' := by
  obtain ⟨A, c, rfl⟩ := own_form h
  exact ⟨A, c, e, h, hb⟩
theorem Try.infoB : (Try.prog.info? 5).map (fun i => (i.zero, i.size, i.bytes)) = some (some (.int .u8 0), 1, 1) := by kernel_rfl
theorem map_get {xs : List Int} {j : Nat} {u : Value} (h : (bv xs)[j]? = some u) : j < xs.length ∧ u = .int .u8 (xs.getD j 0) := by
  unfold bv at h
  rw [List.getElem?_map] at h
  cases e : xs[j]? with
  | none => rw [e] at h; cases h
  | some x =>
    rw [e] at h
    obtain ⟨hj, hx⟩ := List.getElem?_eq_some_iff.1 e
    refine ⟨hj, ?_⟩
    rw [List.getD_eq_getElem?_getD, e]
    simpa using h.symm
theorem u8_one (xs : List Int) : ∀ u ∈ bv xs, u.oneCell' = true := fun u hu => by
  obtain ⟨x, _, rfl⟩ := List.mem_map.1 (show u ∈ List.map _ _ from hu)
  rfl

set_option maxRecDepth 100000 in
set_option maxHeartbeats 1000000 in
theorem clone_any (w : World) (v : Value) (xs : List Int) (h1 : RdB w v xs) :
    Calls Try.prog 25 #[v] w (OwnB xs w) := by
  obtain ⟨iB, hiB, hz0, hz1, hz2⟩ := info_parts Try.infoB
  have qT : ∀ (w : World) (a : Option Addr) (n c n' c' : Nat), (binOp .eql 24 (.slice a n c) (.slice none n' c')).run Try.prog w = .ok (.bool a.isNone) w := fun w a n c n' c' => Lib.run_eql_slice_nil w _ _ a n c n' c' Try.underlying24
  obtain ⟨b1, m1, A1, c1, rfl, k1, k1', r1⟩ := h1
  unfold maxB at m1
  cases A1 with
  | none =>
    have h0 : xs = [] := by
      by_cases h : 0 < xs.length
      · obtain ⟨_, _, e, _⟩ := r1 h; cases e
      · exact List.eq_nil_of_length_eq_zero (by omega)
    subst h0
    go_enter Try.func25, Try.ntmps25
    go_wp2_with fail
    go_ret
    exact mkOwnB rfl (own_nil _ _ _ _) (Below.refl _ _)
  | some a =>
    have hn : ∀ j u, (bv xs)[j]? = some u → (w.alloc (.cells #[] 5)).cell? (a.add j) = some u := fun j u hu => by
      obtain ⟨hj, rfl⟩ := map_get hu
      obtain ⟨g, o, e, hg, hc⟩ := r1 (by omega)
      injection e with e
      subst e
      rw [add_plain', World.cell?_alloc_past _ _ _ hg]; exact hc j hj
    have HN := Lib.hid hn
    have HO := Lib.hid (World.ownsRow_made w #[] 0 (Nat.le_refl _) (by simp [maxLen]) rfl : (w.alloc (.cells #[] 5)).ownsRow w.heap.size 5 1 (.slice (some ⟨w.heap.size, 0, none⟩) 0 0) 0 [])
    obtain ⟨n, hn'⟩ : ∃ n, n = xs.length := ⟨_, rfl⟩
    have HL := Lib.hid hn'
    rw [← hn'] at m1 k1 ⊢
    clear hn hn' r1
    go_enter Try.func25, Try.ntmps25
    go_wp2_with (at_builtin; refine wpList_append_own _ rfl _ _ 24 rfl w.heap.size 5 iB (.int .u8 0) 1 1 Try.underlying24 hiB hz0 hz1 hz2 rfl (by decide) _ _ _ rfl HO.out a n c1 (bv xs) rfl ?c0 HN.out (u8_one xs) ?c3 ?c4 ?c5 ?_)
    case c0 => rw [bv_length, ← HL.out, Nat.mul_one]
    case c3 => unfold maxLen; omega
    case c4 => omega
    case c5 => simp
    intro v' w1 hown' hgrow _
    have HO1 := Lib.hid hown'
    have HG := Lib.hid hgrow
    clear hown' hgrow
    go_wp2_with fail
    go_ret
    refine mkOwnB rfl ?_ ((below_alloc (Below.refl _ _) _).grown HG.out (by simp) (fun k hk => (HO.out.lt k hk).1))
    have h := HO1.out
    rw [← HL.out]
    simpa using h

/-- slices.Grow of a nil slice: nil, or an empty row with room. -/
def GrowPost (t : TypeId) (size : Nat) (w : World) (r : Ending) (w' : World) : Prop := ∃ v, r = .returned v ∧ w'.ownsRow w.heap.size t size v 0 [] ∧ Below w.heap.size w w'
set_option maxRecDepth 100000 in
set_option maxHeartbeats 1000000 in
theorem growB_nil (w : World) (n : Nat) (hn : n ≤ 70368744177664) :
    Calls Try.prog 59 #[.slice none 0 0, .int .i64 n] w (GrowPost 5 1 w) := by
  obtain ⟨iB, hiB, hz0, hz1, hz2⟩ := info_parts Try.infoB
  by_cases h0 : n = 0
  · subst h0
    go_enter Try.func59, Try.ntmps59
    go_wp2_with fail
    go_ret
    exact ⟨_, rfl, own_nil _ _ _ _, Below.refl _ _⟩
  · have hrz := fun ty => Lib.run_append_grow_zeros w 24 3 ty 5 iB (.int .u8 0) .i64 .i64 Try.underlying24 Try.underlying3 hiB hz0 none 0 0 [] (run_firstCells_none w.drew iB.size 0 0 0) n (by omega) (by omega) (by omega) (by omega)
        (by rw [hz2]; omega)
        (growslice_fits (by omega) (by rw [hz2]; omega))
    have hGn : 0 + n ≤ grownCap w (0 + n) 0 5 := grownCap_ge w _ _ _
    have hGm : grownCap w (0 + n) 0 5 ≤ maxLen := grownCap_le_maxLen w (0 + n) 0 _ (by unfold maxLen; omega)
    generalize grownCap w (0 + n) 0 5 = G at hrz hGn hGm
    obtain ⟨C, hC⟩ : ∃ C, C = (([] : List Value).toArray ++ Builtin.zeroCells (Value.int .u8 0).cells n ++ Builtin.zeroCells (Value.int .u8 0).cells (G - (0 + n))) := ⟨_, rfl⟩
    have hCs : C.size = G * 1 := by rw [hC]; simp [size_zeroCells, Value.cells]; omega
    rw [← hC] at hrz
    clear hC
    have HO := Lib.hid ((World.ownsRow_made w.drew C G (Nat.le_refl _) hGm hCs : (w.drew.alloc (.cells C 5)).ownsRow w.drew.heap.size 5 1 (.slice (some ⟨w.drew.heap.size, 0, none⟩) 0 G) 0 []))
    rw [Nat.zero_add] at hrz hGn
    have hG63 : G ≤ 9223372036854775807 := by unfold maxLen at hGm; omega
    clear hCs hGm
    go_enter Try.func59, Try.ntmps59
    go_wp2_with (at_builtin; refine Lib.wpList_append_run _ rfl _ _ _ _ rfl _ _ rfl rfl _ _ (hrz _) ?_)
    all_goals (go_ret; exact ⟨_, rfl, HO.out, below_alloc (Below.refl _ _).drew _⟩)

end Go.Proofs.Ytdiiolbkjmhmdaa
