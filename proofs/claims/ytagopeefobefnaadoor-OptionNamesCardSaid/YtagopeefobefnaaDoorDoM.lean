/- The order of names does not matter; the fields of a text; slices.Clone and slices.Reverse at strings. -/
import Derived.Test.YtagopeefobefnaaDoorDoK
namespace Go.Proofs.YtagopeefobefnaaDoor
open Go.RowKit
set_option linter.unusedSimpArgs false
set_option linter.unusedVariables false

theorem idx_range (s : ByteArray) : idxI s = -1 ∨ ∃ k : Nat, k < 6 ∧ idxI s = k := by
  rcases idx_cases s with ⟨k, hk, h, _⟩ | ⟨h, _⟩
  · exact .inr ⟨k, hk, h⟩
  · exact .inl h
theorem setP_comm (p : Nat → Bool) (i j : Nat) : setP (setP p i) j = setP (setP p j) i := by
  funext k
  unfold setP
  by_cases h1 : k = j <;> by_cases h2 : k = i <;> simp [h1, h2]
theorem step_swap (p : Nat → Bool) (s t : ByteArray) (f : (Nat → Bool) → Option (Nat → Bool)) : ((stepP p s).bind fun q => (stepP q t).bind f) = ((stepP p t).bind fun q => (stepP q s).bind f) := by
  rcases idx_range s with hs | ⟨i, hi, hs⟩
  · rw [step_no hs]
    cases h : stepP p t with
    | none => rfl
    | some q => simp [step_no hs]
  · rcases idx_range t with ht | ⟨j, hj, ht⟩
    · rw [step_no ht]
      cases h : stepP p s with
      | none => rfl
      | some q => simp [step_no ht]
    · cases hpi : p i with
      | true =>
        rw [step_dup hs hpi]
        cases hpj : p j with
        | true => rw [step_dup ht hpj]; rfl
        | false =>
          rw [step_new ht hpj]
          simp only [Option.bind_none, Option.bind_some]
          rw [step_dup hs (by unfold setP; split <;> simp [hpi])]
          rfl
      | false =>
        rw [step_new hs hpi]
        cases hpj : p j with
        | true =>
          rw [step_dup ht hpj]
          simp only [Option.bind_none, Option.bind_some]
          rw [step_dup ht (by unfold setP; split <;> simp [hpj])]
          rfl
        | false =>
          rw [step_new ht hpj]
          simp only [Option.bind_some]
          by_cases e : i = j
          · subst e
            rw [step_dup ht (by simp [setP]), step_dup hs (by simp [setP])]
          · rw [step_new ht (by simp [setP, hpj]; exact fun h => e h.symm), step_new hs (by simp [setP, hpi]; exact e)]
            simp only [Option.bind_some]
            rw [setP_comm]
theorem ofP_perm {xs ys : List ByteArray} (h : xs.Perm ys) : ∀ p, ofP xs p = ofP ys p := by
  induction h with
  | nil => intro p; rfl
  | cons s h ih =>
    intro p
    unfold ofP
    cases stepP p s with
    | none => rfl
    | some q => exact ih q
  | swap s t l =>
    intro p
    simp only [ofP]
    exact step_swap p t s (ofP l)
  | trans h1 h2 ih1 ih2 => intro p; rw [ih1 p, ih2 p]
theorem ofP_reverse (xs : List ByteArray) (p : Nat → Bool) : ofP xs.reverse p = ofP xs p := ofP_perm (List.reverse_perm xs) p

def cnt (p : Nat → Bool) : Nat := (p 0).toNat + (p 1).toNat + (p 2).toNat + (p 3).toNat + (p 4).toNat + (p 5).toNat
theorem cnt_set {p : Nat → Bool} {k : Nat} (hk : k < 6) (hp : p k = false) : cnt (setP p k) = cnt p + 1 := by
  match k, hk with
  | 0, _ => simp [cnt, setP, hp]; omega
  | 1, _ => simp [cnt, setP, hp]; omega
  | 2, _ => simp [cnt, setP, hp]; omega
  | 3, _ => simp [cnt, setP, hp]; omega
  | 4, _ => simp [cnt, setP, hp]; omega
  | 5, _ => simp [cnt, setP, hp]
theorem cnt_of : ∀ (xs : List ByteArray) (p q : Nat → Bool), ofP xs p = some q → cnt q = cnt p + xs.length
  | [], p, q, h => by
    unfold ofP at h
    obtain rfl := Option.some.inj h
    simp
  | s :: r, p, q, h => by
    unfold ofP at h
    rcases idx_range s with hs | ⟨k, hk, hs⟩
    · rw [step_no hs] at h; cases h
    · cases hp : p k with
      | true => rw [step_dup hs hp] at h; cases h
      | false =>
        rw [step_new hs hp] at h
        have := cnt_of r (setP p k) q h
        rw [cnt_set hk hp] at this
        rw [this, List.length_cons]; omega
theorem fields_cnt (a b c d e f : Bool) (h : (a || b || c || d || e || f) = true) : (Lib.fields (text a b c d e f).data.toList).length = a.toNat + b.toNat + c.toNat + d.toNat + e.toNat + f.toNat := by
  cases a <;> cases b <;> cases c <;> cases d <;> cases e <;> cases f <;> first | (exfalso; revert h; decide) | kernel_rfl
theorem text_ascii (a b c d e f : Bool) : ((text a b c d e f).data.toList.all fun b => decide (b.toNat < 128)) = true := by
  cases a <;> cases b <;> cases c <;> cases d <;> cases e <;> cases f <;> kernel_rfl
theorem text_ascii' (a b c d e f : Bool) : ∀ (j : Nat) (u : UInt8), (text a b c d e f).data.toList[j]? = some u → u.toNat < 128 := fun j u hu => by
  have := List.all_eq_true.1 (text_ascii a b c d e f) u (List.mem_of_getElem? hu)
  simpa using this

/-- A row of strings of the call's own. -/
def OwnS (base : Nat) (v : Value) (xs : List ByteArray) (w : World) : Prop :=
  ∃ A c, v = .slice A xs.length c ∧ xs.length ≤ c ∧ (0 < xs.length → ∃ g, A = some ⟨g, 0, none⟩ ∧ base ≤ g ∧ g < w.heap.size ∧ ∀ j x, xs[j]? = some x → w.cell? ⟨g, j, none⟩ = some (.string x) ∧ w.frozen? ⟨g, j, none⟩ = false)
theorem OwnS.rd {base : Nat} {v : Value} {xs : List ByteArray} {w : World} (h : OwnS base v xs w) : RdS w v xs := by
  obtain ⟨A, c, e, hc, h2⟩ := h
  refine ⟨A, c, e, hc, fun hp => ?_⟩
  obtain ⟨g, e2, _, hg, hcell⟩ := h2 hp
  exact ⟨g, 0, e2, hg, fun j x hj => by rw [Nat.zero_add]; exact (hcell j x hj).1⟩
theorem own_s {base : Nat} {w : World} {v : Value} {xs : List ByteArray} (h : w.ownsRow base 9 1 v xs.length (xs.map Value.string)) : OwnS base v xs w := by
  have h0 := h
  rcases h.2 with ⟨rfl, e⟩ | ⟨g, cap, cur, rfl, hb, hg, hnc, hcm, hcs, ht⟩
  · exact ⟨none, 0, by rw [e], by omega, fun hp => by omega⟩
  · refine ⟨_, cap, rfl, hnc, fun _ => ⟨g, rfl, hb, (Array.getElem?_eq_some_iff.1 hg).1, fun j x hj => ⟨?_, ?_⟩⟩⟩
    · have := h0.cells (g := g) rfl j (.string x) (by simp [hj])
      rwa [add_plain] at this
    · simp [World.frozen?, hg]
theorem cloneS_any (w : World) (v : Value) (xs : List ByteArray) (hn : xs.length ≤ 1000) (h : RdS w v xs) :
    Calls Tryd.prog 9 #[v] w fun r w' => ∃ v', r = .returned v' ∧ OwnS w.heap.size v' xs w' ∧ Below w.heap.size w w' := by
  obtain ⟨A, c, rfl, hc, h2⟩ := h
  by_cases h0 : 0 < xs.length
  · obtain ⟨g, o, rfl, hg, hcell⟩ := h2 h0
    refine (Tryd.slices_Clone_string g o xs.length c xs w (Nat.le_refl _) (by omega) (fun j hj => ?_)).mono ?_
    · rw [hcell j xs[j] (List.getElem?_eq_getElem hj)]
      simp [List.getD_eq_getElem?_getD, hj]
    · rintro r w' ⟨v', rfl, ho, _, hb⟩
      rw [List.take_length] at ho
      exact ⟨v', rfl, own_s ho, hb⟩
  · obtain rfl : xs = [] := List.eq_nil_of_length_eq_zero (by omega)
    cases A with
    | none =>
      refine (Tryd.slices_Clone_string_nil 0 c w).mono ?_
      rintro r w' ⟨rfl, rfl⟩
      exact ⟨_, rfl, ⟨none, 0, rfl, Nat.le_refl _, fun hp => by simp at hp⟩, Below.refl _ _⟩
    | some a =>
      refine (Tryd.slices_Clone_string_zero a c w).mono ?_
      rintro r w' ⟨v', rfl, ho, _, hb⟩
      exact ⟨v', rfl, own_s (xs := []) ho, hb⟩
theorem below_putRow {α : Type} [Inhabited α] (enc : α → Value) (w : World) (n blk off : Nat) (d : Array α) {B : Nat} (h : B ≤ blk) : Below B w (Go.Sort.putRow enc (Go.Sort.ahead w n) blk off d) :=
  ⟨rfl, rfl, rfl, by simp, fun k hk => by
    show (w.heap.modify blk _)[k]? = _
    rw [Array.getElem?_modify, if_neg (by omega)]⟩
theorem revS_any (w : World) (base : Nat) (v : Value) (xs : List ByteArray) (hn : xs.length ≤ 1000) (h : OwnS base v xs w) :
    Calls Tryd.prog 10 #[v] w fun r w' => r = .returned (.tuple #[]) ∧ RdS w' v xs.reverse ∧ Below base w w' := by
  obtain ⟨A, c, rfl, hc, h2⟩ := h
  by_cases h0 : 0 < xs.length
  · obtain ⟨g, rfl, hb, hg, hcell⟩ := h2 h0
    have hH : Go.Sort.Holds Go.Proofs.encStr w g 0 (xs.map (·.data.toList)).toArray := fun j hj => by
      simp at hj
      have := hcell j xs[j] (List.getElem?_eq_getElem hj)
      rw [Nat.zero_add]
      refine ⟨?_, this.2⟩
      rw [this.1]
      simp [Go.Proofs.encStr, hj]
    have hr := Tryd.slices_Reverse_string g 0 c (xs.map (·.data.toList)) w hH (by simp; omega)
    rw [List.length_map] at hr
    refine hr.mono ?_
    rintro r w' ⟨rfl, n, rfl⟩
    refine ⟨rfl, ⟨some ⟨g, 0, none⟩, c, by rw [List.length_reverse], by rw [List.length_reverse]; exact hc, fun _ => ⟨g, 0, rfl, by simpa using hg, fun j x hj => ?_⟩⟩, below_putRow _ _ _ _ _ _ hb⟩
    have hjl : j < xs.length := by
      have := (List.getElem?_eq_some_iff.1 hj).1
      rwa [List.length_reverse] at this
    have := Go.Sort.cell?_putRow Go.Proofs.encStr (Go.Sort.ahead w n) g 0 _ (xs.map (·.data.toList)).reverse.toArray (Go.Sort.holds_ahead _ _ n _ _ _ hH) (by simp) j (by simpa using hjl)
    rw [this]
    rw [← List.map_reverse]
    simp only [Go.Proofs.encStr]
    have e : ((xs.reverse.map (·.data.toList)).toArray)[j]! = x.data.toList := by
      rw [getElem!_pos _ _ (by simpa using hjl)]
      have hx : xs.reverse[j]'(by simpa using hjl) = x := by
        have := List.getElem?_eq_getElem (l := xs.reverse) (i := j) (by simpa using hjl)
        rw [hj] at this
        exact (Option.some.inj this).symm
      simp only [List.getElem_toArray, List.getElem_map, hx]
    rw [e]
  · obtain rfl : xs = [] := List.eq_nil_of_length_eq_zero (by omega)
    refine (Tryd.slices_Reverse_string_empty A c w).mono ?_
    rintro r w' ⟨rfl, rfl⟩
    exact ⟨rfl, ⟨A, c, rfl, Nat.zero_le _, fun hp => by simp at hp⟩, Below.refl _ _⟩

end Go.Proofs.YtagopeefobefnaaDoor
