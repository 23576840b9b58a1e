/- octet's Reader: New, Take, Number. -/
import Derived.Test.YtdiiolbkjmhmdaaHdM
import Derived.Laws.BitsAllLaws
namespace Go.Proofs.Ytdiiolbkjmhmdaa
open Go.RowKit
set_option linter.unusedSimpArgs false
set_option linter.unusedVariables false

/-- The reader at block g: what is left of its bytes, its offset. -/
def Rd (g : Nat) (xs : List Int) (a : Int) (w : World) : Prop :=
  ∃ A c, Cur g A xs.length c a w ∧ xs.length ≤ maxB ∧ (∀ x ∈ xs, 0 ≤ x ∧ x ≤ 255) ∧ xs.length ≤ c ∧ c ≤ 9223372036854775807 ∧ (0 < xs.length → ∃ ga oa, A = some ⟨ga, oa, none⟩ ∧ ga < g ∧ ∀ j, j < xs.length → w.cell? ⟨ga, oa + j, none⟩ = some (.int .u8 (xs.getD j 0)))
theorem Rd.below {g : Nat} {xs : List Int} {a : Int} {w w' : World} (h : Rd g xs a w) (hb : Below w.heap.size w w') : Rd g xs a w' := by
  obtain ⟨A, c, h1, h2, h3, h4, h5, h6⟩ := h
  refine ⟨A, c, h1.below hb, h2, h3, h4, h5, fun hp => ?_⟩
  obtain ⟨ga, oa, e, hl, hc⟩ := h6 hp
  have := h1.2.2.2.2
  exact ⟨ga, oa, e, hl, fun j hj => by rw [hb.cell (by simp; omega)]; exact hc j hj⟩
theorem Rd.lt {g : Nat} {xs : List Int} {a : Int} {w : World} (h : Rd g xs a w) : g < w.heap.size := by
  obtain ⟨A, c, h1, _⟩ := h
  exact h1.2.2.2.2
theorem getD_drop (xs : List Int) (k j : Nat) : (xs.drop k).getD j 0 = xs.getD (k + j) 0 := by simp [List.getD_eq_getElem?_getD]
/-- Behind a cut. -/
theorem Rd.cut {g ga oa o' c k : Nat} {xs : List Int} {a : Int} {w w' : World} (hx : ∀ x ∈ xs, 0 ≤ x ∧ x ≤ 255) (hl : xs.length ≤ maxB) (hk : k ≤ xs.length) (hc : xs.length ≤ c) (hc2 : c ≤ 9223372036854775807) (hga : ga < g)
    (hcell : ∀ j, j < xs.length → w.cell? ⟨ga, oa + j, none⟩ = some (.int .u8 (xs.getD j 0))) (hb : Below g w w') (ho : k < xs.length → o' = oa + k) (h : Cur g (some ⟨ga, o', none⟩) (xs.length - k) (c - k) (a + k) w') : Rd g (xs.drop k) (a + k) w' := by
  refine ⟨_, c - k, by rw [List.length_drop]; exact h, by rw [List.length_drop]; omega, fun x hm => hx x (List.mem_of_mem_drop hm), by rw [List.length_drop]; omega, by omega, fun hp => ?_⟩
  rw [List.length_drop] at hp
  refine ⟨ga, o', rfl, hga, fun j hj => ?_⟩
  rw [List.length_drop] at hj
  rw [ho (by omega), hb.cell hga, getD_drop, Nat.add_assoc]
  exact hcell _ (by omega)

def NewP (xs : List Int) (w : World) (r : Ending) (w' : World) : Prop := ∃ g, r = .returned (.pointer (some ⟨g, 0, none⟩)) ∧ w.heap.size ≤ g ∧ Below w.heap.size w w' ∧ Rd g xs 0 w'
set_option maxRecDepth 100000 in
set_option maxHeartbeats 4000000 in
theorem new_any (w : World) (v : Value) (xs : List Int) (h1 : RdB w v xs) :
    Calls Try.prog 50 #[v] w (NewP xs w) := by
  have H := Lib.hid (clone_any w v xs h1)
  have HX := Lib.hid h1.1
  have HL := Lib.hid h1.2.1
  obtain ⟨n, hn⟩ : ∃ n, n = xs.length := ⟨_, rfl⟩
  have HN := Lib.hid hn
  obtain ⟨m0, m1, A1, c1, rfl, m2, m3, r1⟩ := h1
  rw [← hn] at H ⊢
  clear m0 m1 m2 m3 r1 hn
  go_enter Try.func50, Try.ntmps50
  go_wp2_with fail
  refine H.out.mono ?_
  rintro r w1 ⟨A, c, rfl, ho, hb⟩
  have HR := Lib.hid (RdB.own ho HX.out HL.out)
  have HB := Lib.hid hb
  rw [← HN.out] at HR ⊢
  clear ho hb
  go_wp2_with fail
  go_ret
  obtain ⟨-, -, A', c', e, hc, hc2, hcell⟩ := HR.out
  rw [← HN.out] at e hc hcell
  injection e with e1 _ e2
  subst e1 e2
  refine ⟨w1.heap.size, rfl, HB.out.size, below_alloc HB.out _, A, c, ⟨?_, ?_, ?_, ?_, by simp⟩, HL.out, HX.out, by rw [← HN.out]; exact hc, hc2.1, fun hp => ?_⟩
  · rw [World.cell?_alloc_at _ _ _ _ rfl, ← HN.out]; rfl
  · rw [World.cell?_alloc_at _ _ _ _ rfl]; rfl
  · rw [World.frozen?_alloc_at _ _ _ _ rfl]
  · rw [World.frozen?_alloc_at _ _ _ _ rfl]
  · obtain ⟨g, o, e, hg, hcc⟩ := hcell (by rw [HN.out]; exact hp)
    exact ⟨g, o, e, hg, fun j hj => by rw [World.cell?_alloc_past _ _ _ (by exact hg)]; exact hcc j (by rw [HN.out]; exact hj)⟩

def TakeP (g : Nat) (xs : List Int) (a : Int) (k : Nat) (w : World) (r : Ending) (w' : World) : Prop := ∃ v, r = .returned v ∧ Below g w w' ∧ if k ≤ xs.length then Rd g (xs.drop k) (a + k) w' else Rd g xs a w'
set_option maxRecDepth 100000 in
set_option maxHeartbeats 4000000 in
theorem take_any (g : Nat) (xs : List Int) (a : Int) (k : Nat) (hk0 : 0 < k) (hk1 : k ≤ 16) (ha : 0 ≤ a ∧ a ≤ 1000) (w : World) (h : Rd g xs a w) :
    Calls Try.prog 51 #[.pointer (some ⟨g, 0, none⟩), .int .i64 k] w (TakeP g xs a k w) := by
  have HH := Lib.hid h
  have hg := h.lt
  obtain ⟨A, c, h1, h2, h3, h4, h5, h6⟩ := h
  by_cases hk : k ≤ xs.length
  · obtain ⟨ga, oa, rfl, hl, hc⟩ := h6 (by omega)
    have HC := Lib.hid (cut_ok g ga oa xs.length c k a hk hk0 hk1 h2 h4 h5 ha w h1)
    have HP : Hid (∀ w', Below g w w' → ∀ o', (k < xs.length → o' = oa + k) → Cur g (some ⟨ga, o', none⟩) (xs.length - k) (c - k) (a + k) w' → if k ≤ xs.length then Rd g (xs.drop k) (a + k) w' else Rd g xs a w') := fun w' hb o' ho hcur => by
      rw [if_pos hk]; exact Rd.cut h3 h2 hk h4 h5 hl hc hb ho hcur
    have HCL := Lib.hid (fun (W : World) (hb : Below g w W) => clone_any W (.slice (some ⟨ga, oa, none⟩) k k) (xs.take k) ⟨fun x hx => h3 x (List.mem_of_mem_take hx), by rw [List.length_take]; omega, some ⟨ga, oa, none⟩, k, by rw [List.length_take, Nat.min_eq_left hk], by rw [List.length_take]; omega, ⟨by omega, fun h => nomatch h⟩, fun _ => ⟨ga, oa, rfl, by have := hb.size; omega, fun j hj => by
      rw [List.length_take] at hj
      rw [hb.cell hl, hc j (by omega)]
      simp [List.getD_eq_getElem?_getD, List.getElem?_take, show j < k by omega]⟩⟩)
    clear h1 h2 h3 h4 h5 h6 hc hk HH ha
    go_enter Try.func51, Try.ntmps51
    go_wp2_with (go_at_call 67; refine HC.out.mono ?_; rintro r w1 ⟨rfl, hb1, o', ho', hcur⟩)
    have hs1 := hb1.size
    refine (HCL.out _ (hb1.alloc (by omega) _)).mono ?_
    rintro r w2 ⟨A3, c3, rfl, ho3, hb3⟩
    have hb2 : Below g w w2 := (hb1.alloc (by omega) _).trans (hb3.mono (by simp; omega))
    have HR := Lib.hid (HP.out w2 hb2 o' ho' ((hcur.below (below_alloc (Below.refl _ _) _)).below hb3))
    have HB := Lib.hid hb2
    obtain ⟨l3, hl3⟩ : ∃ l3, l3 = (List.take k xs).length := ⟨_, rfl⟩
    rw [← hl3]
    clear hb1 hb2 hb3 ho3 ho' hcur HP HCL HC hs1 hl3
    go_wp2_with fail
    go_ret2
    exact ⟨_, rfl, HB.out, HR.out⟩
  · have HC := Lib.hid (cut_no g A xs.length c k a (by omega) hk1 w h1)
    have HP : Hid (∀ w', Below w.heap.size w w' → if k ≤ xs.length then Rd g (xs.drop k) (a + k) w' else Rd g xs a w') := fun w' hb => by
      rw [if_neg hk]; exact HH.out.below hb
    clear h1 h2 h3 h4 h5 h6 hk ha HH
    go_enter Try.func51, Try.ntmps51
    go_wp2_with (go_at_call 67; refine HC.out.mono ?_; rintro r w1 ⟨rfl, hb1⟩)
    refine (clone_any _ _ [] (RdB.nil _ none 0 ⟨by omega, fun _ => rfl⟩)).mono ?_
    rintro r w2 ⟨A3, c3, rfl, ho3, hb3⟩
    have HB := Lib.hid (below_then' (below_alloc hb1 _) hb3)
    clear hb1 hb3 ho3 HC
    go_wp2_with fail
    go_ret2
    exact ⟨_, rfl, HB.out.mono (by omega), HP.out _ HB.out⟩

theorem or_0 {x : Int} (h : 0 ≤ x ∧ x ≤ 255) : bits .or .u32 0 x = x := by
  obtain ⟨n, rfl⟩ := Int.eq_ofNat_of_zero_le h.1
  have := u32_or_nat 0 n (by omega) (by omega)
  simpa using this
theorem or_8 {x y : Int} (h : 0 ≤ x ∧ x ≤ 255) (h2 : 0 ≤ y ∧ y ≤ 255) : bits .or .u32 (x * 256) y = x * 256 + y := by
  obtain ⟨n, rfl⟩ := Int.eq_ofNat_of_zero_le h.1
  obtain ⟨m, rfl⟩ := Int.eq_ofNat_of_zero_le h2.1
  have := u32_or_nat (n * 256) m (by omega) (by omega)
  have e : n * 256 ||| m = n * 256 + m := by
    have := Nat.shiftLeft_add_eq_or_of_lt (a := n) (b := m) (i := 8) (by omega)
    rw [Nat.shiftLeft_eq] at this
    simpa using this.symm
  rw [e] at this
  simpa using this

def NumP (g : Nat) (xs : List Int) (a y : Int) (z : Bool) (w : World) (r : Ending) (w' : World) : Prop := r = .returned (.tuple #[.int .u32 y, .bool z]) ∧ Below g w w' ∧ Rd g xs a w'
set_option maxRecDepth 100000 in
set_option maxHeartbeats 4000000 in
theorem number_no (g : Nat) (xs : List Int) (a : Int) (k : Nat) (hk0 : 0 < k) (hk1 : k ≤ 4) (hk : xs.length < k) (w : World) (h : Rd g xs a w) :
    Calls Try.prog 52 #[.pointer (some ⟨g, 0, none⟩), .int .i64 k] w (NumP g xs a 0 false w) := by
  have HH := Lib.hid h
  have hg := h.lt
  obtain ⟨A, c, h1, h2, h3, h4, h5, h6⟩ := h
  have HC := Lib.hid (cut_no g A xs.length c k a hk (by omega) w h1)
  have e1 : (1 : Int) ≤ k := by omega
  have e2 : (k : Int) ≤ 4 := by omega
  clear h1 h2 h3 h4 h5 h6 hk
  go_enter Try.func52, Try.ntmps52
  go_wp2_with (go_at_call 67; refine HC.out.mono ?_; rintro r w1 ⟨rfl, hb1⟩)
  refine wp_loop_rounds 1 ?_
  rw [rounds_succ]
  go_wp2_with fail
  go_ret2
  exact ⟨rfl, (below_alloc hb1 _).mono (by omega), HH.out.below (below_alloc hb1 _)⟩

set_option maxRecDepth 100000 in
set_option maxHeartbeats 4000000 in
theorem number_1 (g : Nat) (x : Int) (xs : List Int) (a : Int) (ha : 0 ≤ a ∧ a ≤ 1000) (w : World) (h : Rd g (x :: xs) a w) :
    Calls Try.prog 52 #[.pointer (some ⟨g, 0, none⟩), .int .i64 1] w (NumP g xs (a + 1) x true w) := by
  have hg := h.lt
  obtain ⟨A, c, h1, h2, h3, h4, h5, h6⟩ := h
  obtain ⟨ga, oa, rfl, hl, hc⟩ := h6 (by simp)
  have HC := Lib.hid (cut_ok g ga oa (x :: xs).length c 1 a (by simp) (by omega) (by omega) h2 h4 h5 ha w h1)
  have hx := h3 x (by simp)
  have c0 : w.cell? ⟨ga, oa, none⟩ = some (.int .u8 x) := hc 0 (by simp)
  have HP : Hid (∀ w', Below g w w' → ∀ o', (1 < (x :: xs).length → o' = oa + 1) → Cur g (some ⟨ga, o', none⟩) ((x :: xs).length - 1) (c - 1) (a + 1) w' → Rd g xs (a + 1) w') := fun w' hb o' ho hcur =>
    Rd.cut (k := 1) h3 h2 (by simp) h4 h5 hl hc hb ho hcur
  obtain ⟨n, hn⟩ : ∃ n, n = (x :: xs).length := ⟨_, rfl⟩
  rw [← hn] at HC HP
  clear h1 h2 h3 h4 h5 h6 hc ha hn
  go_enter Try.func52, Try.ntmps52
  go_wp2_with (go_at_call 67; refine HC.out.mono ?_; rintro r w1 ⟨rfl, hb1, o', ho', hcur⟩)
  have c1 : w1.cell? ⟨ga, oa, none⟩ = some (.int .u8 x) := by rw [hb1.cell hl]; exact c0
  have hlw : ga < w1.heap.size := by have := hb1.size; omega
  have hO := or_0 hx
  have HB := Lib.hid (hb1.alloc (o := .cells #[.slice (some ⟨ga, oa, none⟩) 1 1, .int .i64 a] 127) (by have := hb1.size; omega))
  have HR := Lib.hid ((HP.out w1 hb1 o' ho' hcur).below (below_alloc (Below.refl _ _) (.cells #[.slice (some ⟨ga, oa, none⟩) 1 1, .int .i64 a] 127)))
  clear HP HC ho' hcur hb1
  refine wp_loop_rounds 2 ?_
  rw [rounds_succ]
  go_wp2_with fail
  rw [rounds_succ]
  go_wp2_with fail
  go_ret2
  exact ⟨rfl, HB.out, HR.out⟩

set_option maxRecDepth 100000 in
set_option maxHeartbeats 4000000 in
theorem number_2 (g : Nat) (x y : Int) (xs : List Int) (a : Int) (ha : 0 ≤ a ∧ a ≤ 1000) (w : World) (h : Rd g (x :: y :: xs) a w) :
    Calls Try.prog 52 #[.pointer (some ⟨g, 0, none⟩), .int .i64 2] w (NumP g xs (a + 2) (x * 256 + y) true w) := by
  have hg := h.lt
  obtain ⟨A, c, h1, h2, h3, h4, h5, h6⟩ := h
  obtain ⟨ga, oa, rfl, hl, hc⟩ := h6 (by simp)
  have HC := Lib.hid (cut_ok g ga oa (x :: y :: xs).length c 2 a (by simp) (by omega) (by omega) h2 h4 h5 ha w h1)
  have hx := h3 x (by simp)
  have hy := h3 y (by simp)
  have c0 : w.cell? ⟨ga, oa, none⟩ = some (.int .u8 x) := hc 0 (by simp)
  have c1 : w.cell? ⟨ga, oa + 1, none⟩ = some (.int .u8 y) := hc 1 (by simp)
  have HP : Hid (∀ w', Below g w w' → ∀ o', (2 < (x :: y :: xs).length → o' = oa + 2) → Cur g (some ⟨ga, o', none⟩) ((x :: y :: xs).length - 2) (c - 2) (a + 2) w' → Rd g xs (a + 2) w') := fun w' hb o' ho hcur =>
    Rd.cut (k := 2) h3 h2 (by simp) h4 h5 hl hc hb ho hcur
  obtain ⟨n, hn⟩ : ∃ n, n = (x :: y :: xs).length := ⟨_, rfl⟩
  rw [← hn] at HC HP
  clear h1 h2 h3 h4 h5 h6 hc ha hn
  go_enter Try.func52, Try.ntmps52
  go_wp2_with (go_at_call 67; refine HC.out.mono ?_; rintro r w1 ⟨rfl, hb1, o', ho', hcur⟩)
  have d0 : w1.cell? ⟨ga, oa, none⟩ = some (.int .u8 x) := by rw [hb1.cell hl]; exact c0
  have d1 : w1.cell? ⟨ga, oa + 1, none⟩ = some (.int .u8 y) := by rw [hb1.cell hl]; exact c1
  have hlw : ga < w1.heap.size := by have := hb1.size; omega
  have hO := or_0 hx
  have hO2 := or_8 hx hy
  have hW : IntKind.u32.wrap (x * 256) = x * 256 := by rw [IntKind.wrap_u32]; omega
  have HB := Lib.hid (hb1.alloc (o := .cells #[.slice (some ⟨ga, oa, none⟩) 2 2, .int .i64 a] 127) (by have := hb1.size; omega))
  have HR := Lib.hid ((HP.out w1 hb1 o' ho' hcur).below (below_alloc (Below.refl _ _) (.cells #[.slice (some ⟨ga, oa, none⟩) 2 2, .int .i64 a] 127)))
  clear HP HC ho' hcur hb1
  refine wp_loop_rounds 3 ?_
  rw [rounds_succ]
  go_wp2_with fail
  rw [rounds_succ]
  go_wp2_with fail
  rw [rounds_succ]
  go_wp2_with fail
  go_ret2
  exact ⟨rfl, HB.out, HR.out⟩

end Go.Proofs.Ytdiiolbkjmhmdaa
