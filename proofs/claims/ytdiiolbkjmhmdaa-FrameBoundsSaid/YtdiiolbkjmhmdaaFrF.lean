/- Events; New, Set, Held, Closed, Frames, fail. -/
import Derived.Test.YtdiiolbkjmhmdaaFrE
namespace Go.Proofs.Ytdiiolbkjmhmdaa
open Go.RowKit
set_option linter.unusedSimpArgs false
set_option linter.unusedVariables false

/-- Six cells that read as an event, outside of g and K. -/
def EvC (w : World) (g : Nat) (K : Option Nat) (x : List Value) (e : Ev) : Prop :=
  ∃ F nf cf D nd cd, x = [.slice F nf cf, .int .i64 e.va, .int .i64 e.vb, .int .i64 e.vc, .slice D nd cd, .int .i64 e.ve] ∧ nf = e.fr.length ∧ nd = e.ds.length ∧ RdB w (.slice F nf cf) e.fr ∧ Av g K F nf ∧ RdB w (.slice D nd cd) e.ds ∧ Av g K D nd ∧
    (∀ a, F = some a → ∀ j, j < nf → w.frozen? ⟨a.block, a.off + j, none⟩ = false) ∧ (0 < nf → ∀ a, F = some a → g < a.block)
theorem Nx.gt {w : World} {g : Nat} {K K' : Option Nat} (h : Nx w K K') (hK : ∀ k, K = some k → g < k) (hg : g < w.heap.size) : ∀ k, K' = some k → g < k := fun k hk => by
  rcases h with h | h | ⟨k', h, hk'⟩
  · rw [h] at hk; cases hk
  · exact hK k (h ▸ hk)
  · rw [h] at hk; injection hk with hk; omega
theorem EvC.ch {w w1 : World} {g : Nat} {K K1 : Option Nat} {x : List Value} {e : Ev} (h : EvC w g K x e) (hc : Ch g K w w1) (hn : Nx w K K1) : EvC w1 g K1 x e := by
  obtain ⟨F, nf, cf, D, nd, cd, rfl, h1, h2, h3, h4, h5, h6, h7, h8⟩ := h
  refine ⟨F, nf, cf, D, nd, cd, rfl, h1, h2, h3.ch h4 hc, h4.nx h3 hn, h5.ch h6 hc, h6.nx h5 hn, fun a ha j hj => ?_, h8⟩
  obtain ⟨gm, om, e2, hlt⟩ := h3.lt (by omega)
  have hav := h4 (by omega) a ha
  have hb : a.block < w.heap.size := by rw [e2] at ha; injection ha with ha; rw [← ha]; exact hlt
  rw [hc.frozen (p := ⟨a.block, a.off + j, none⟩) hb hav.1 hav.2]
  exact h7 a ha j hj
/-- Cells that read as a list of events. -/
def EvL (w : World) (g : Nat) (K : Option Nat) (cs : List Value) (es : List Ev) : Prop :=
  cs.length = es.length * 6 ∧ ∀ i e, es[i]? = some e → EvC w g K ((cs.drop (i * 6)).take 6) e
theorem EvL.nil (w : World) (g : Nat) (K : Option Nat) : EvL w g K [] [] := ⟨rfl, fun i e h => by simp at h⟩
theorem EvL.one {w : World} {g : Nat} {K : Option Nat} {x : List Value} {e : Ev} (h : EvC w g K x e) : EvL w g K x [e] := by
  obtain ⟨F, nf, cf, D, nd, cd, rfl, r⟩ := h
  refine ⟨rfl, fun i e' hi => ?_⟩
  match i with
  | 0 => obtain rfl : e = e' := by simpa using hi
         exact ⟨F, nf, cf, D, nd, cd, rfl, r⟩
  | i + 1 => simp at hi
theorem EvL.ch {w w1 : World} {g : Nat} {K K1 : Option Nat} {cs : List Value} {es : List Ev} (h : EvL w g K cs es) (hc : Ch g K w w1) (hn : Nx w K K1) : EvL w1 g K1 cs es :=
  ⟨h.1, fun i e hi => (h.2 i e hi).ch hc hn⟩
theorem EvL.append {w : World} {g : Nat} {K : Option Nat} {cs ds : List Value} {es fs : List Ev} (h : EvL w g K cs es) (h2 : EvL w g K ds fs) : EvL w g K (cs ++ ds) (es ++ fs) := by
  refine ⟨by simp [h.1, h2.1]; omega, fun i e hi => ?_⟩
  by_cases hl : i < es.length
  · rw [List.getElem?_append_left hl] at hi
    rw [List.drop_append_of_le_length (by rw [h.1]; omega), List.take_append_of_le_length (by rw [List.length_drop, h.1]; omega)]
    exact h.2 i e hi
  · rw [List.getElem?_append_right (by omega)] at hi
    rw [List.drop_append, List.drop_of_length_le (by rw [h.1]; omega), List.nil_append, h.1, ← Nat.sub_mul]
    exact h2.2 _ e hi
theorem EvC.at {w : World} {g : Nat} {K : Option Nat} {cs : List Value} {es : List Ev} (h : EvL w g K cs es) {i : Nat} {e : Ev} (hi : es[i]? = some e) :
    ∃ F cf D cd, cs[i * 6]? = some (.slice F e.fr.length cf) ∧ cs[i * 6 + 1]? = some (.int .i64 e.va) ∧ cs[i * 6 + 2]? = some (.int .i64 e.vb) ∧ cs[i * 6 + 3]? = some (.int .i64 e.vc) ∧ cs[i * 6 + 4]? = some (.slice D e.ds.length cd) ∧ cs[i * 6 + 5]? = some (.int .i64 e.ve) ∧
      RdB w (.slice F e.fr.length cf) e.fr ∧ Av g K F e.fr.length ∧ RdB w (.slice D e.ds.length cd) e.ds ∧ Av g K D e.ds.length ∧ (∀ a, F = some a → ∀ j, j < e.fr.length → w.frozen? ⟨a.block, a.off + j, none⟩ = false) ∧ (0 < e.fr.length → ∀ a, F = some a → g < a.block) := by
  obtain ⟨F, nf, cf, D, nd, cd, hx, rfl, rfl, h1, h2, h3, h4, h5, h6⟩ := h.2 i e hi
  have q : ∀ j, j < 6 → cs[i * 6 + j]? = ((cs.drop (i * 6)).take 6)[j]? := fun j hj => by rw [List.getElem?_take, if_pos hj, List.getElem?_drop]
  refine ⟨F, cf, D, cd, ?_, ?_, ?_, ?_, ?_, ?_, h1, h2, h3, h4, h5, h6⟩
  · have := q 0 (by omega); rw [hx] at this; simpa using this
  · rw [q 1 (by omega), hx]; rfl
  · rw [q 2 (by omega), hx]; rfl
  · rw [q 3 (by omega), hx]; rfl
  · rw [q 4 (by omega), hx]; rfl
  · rw [q 5 (by omega), hx]; rfl
/-- A slice of events of the call's own. -/
def EvS (w : World) (g : Nat) (K : Option Nat) (base : Nat) (v : Value) (es : List Ev) : Prop :=
  ∃ cs, w.ownsRow base 75 6 v es.length cs ∧ EvL w g K cs es ∧ ∀ k, v.ownBlock = some k → k ≠ g ∧ some k ≠ K
theorem own_ch {w w1 : World} {base : Nat} {e : TypeId} {size n : Nat} {v : Value} {xs : List Value} {g : Nat} {K : Option Nat} (h : w.ownsRow base e size v n xs) (ha : ∀ k, v.ownBlock = some k → k ≠ g ∧ some k ≠ K) (hc : Ch g K w w1) : w1.ownsRow base e size v n xs := by
  refine ⟨h.1, ?_⟩
  rcases h.2 with hn | ⟨g', cap, cur, rfl, h1, h2, h3⟩
  · exact .inl hn
  · have ha' := ha g' rfl
    exact .inr ⟨g', cap, cur, rfl, h1, by rw [hc.block g' (Array.getElem?_eq_some_iff.1 h2).1 ha'.1 ha'.2]; exact h2, h3⟩
theorem EvS.ch {w w1 : World} {g : Nat} {K K1 : Option Nat} {base : Nat} {v : Value} {es : List Ev} (h : EvS w g K base v es) (hc : Ch g K w w1) (hn : Nx w K K1) : EvS w1 g K1 base v es := by
  obtain ⟨cs, h1, h2, h3⟩ := h
  exact ⟨cs, own_ch h1 h3 hc, h2.ch hc hn, fun k hk => ⟨(h3 k hk).1, hn.ne (h1.lt k hk).2 (h3 k hk).2⟩⟩
theorem EvS.nil (w : World) (g : Nat) (K : Option Nat) (base : Nat) : EvS w g K base (.slice none 0 0) [] := ⟨[], own_nil _ _ _ _, EvL.nil _ _ _, fun k hk => by simp [Value.ownBlock] at hk⟩
theorem EvS.form {w : World} {g : Nat} {K : Option Nat} {base : Nat} {v : Value} {es : List Ev} (h : EvS w g K base v es) : ∃ A c, v = .slice A es.length c := by
  obtain ⟨cs, h1, _⟩ := h
  exact own_form h1
/-- A new slice of one event. -/
theorem EvS.lit {w : World} {g : Nat} {K : Option Nat} {x : Array Value} {e : Ev} (h : EvC (w.alloc (.cells x 75)) g K x.toList e) (hg : g < w.heap.size) (hK : ∀ k, K = some k → k < w.heap.size) {b : Nat} (hb : b = w.heap.size) {base : Nat} (hbase : base ≤ w.heap.size) :
    EvS (w.alloc (.cells x 75)) g K base (.slice (some ⟨b, 0, none⟩) 1 1) [e] := by
  subst hb
  have hl := (EvL.one h).1
  refine ⟨x.toList, ⟨by simpa using hl, .inr ⟨w.heap.size, 1, x, rfl, hbase, heap_alloc_new w _, Nat.le_refl _, by unfold maxLen; omega, by simpa using hl, ?_⟩⟩, EvL.one h, fun k hk => ?_⟩
  · rw [List.take_of_length_le (by simp at hl ⊢; omega)]
  · simp [Value.ownBlock] at hk
    subst hk
    exact ⟨by omega, fun e => by have := hK _ e.symm; omega⟩

/-- New. -/
def newSt : St := ⟨[], 0, false, 0⟩
def NewFP (a b c d e f : Bool) (w : World) (r : Ending) (w' : World) : Prop := ∃ g, r = .returned (.pointer (some ⟨g, 0, none⟩)) ∧ w.heap.size ≤ g ∧ Below w.heap.size w w' ∧ Fr w' g none (.slice none 0 0) newSt a b c d e f
set_option maxRecDepth 100000 in
theorem new_fr (a b c d e f : Bool) (w : World) : Calls Try.prog 28 #[.agg #[.bool a, .bool b, .bool c, .bool d, .bool e, .bool f]] w (NewFP a b c d e f w) := by
  go_enter Try.func28, Try.ntmps28
  go_wp2_with fail
  go_ret
  refine ⟨w.heap.size + 1, rfl, by omega, below_alloc (below_alloc (Below.refl _ _) _) _, ⟨⟨by simp, fun j hj => ⟨?_, ?_⟩⟩, own_nil _ _ _ _, rfl, nofun, ⟨by simp [newSt], fun _ => rfl, by simp [newSt], by simp [newSt]⟩⟩⟩
  · rw [World.cell?_alloc_at _ _ _ _ (by simp)]
    match j, hj with
    | 0, _ => rfl
    | 1, _ => rfl
    | 2, _ => rfl
    | 3, _ => rfl
    | 4, _ => rfl
    | 5, _ => rfl
    | 6, _ => rfl
    | 7, _ => rfl
    | 8, _ => rfl
    | 9, _ => rfl
    | 10, _ => rfl
    | 11, _ => rfl
    | 12, _ => rfl
  · rw [World.frozen?_alloc_at _ _ _ _ (by simp)]

section
variable {g : Nat} {K : Option Nat} {v : Value} {s : St} {a b c d e f : Bool} {w : World}
set_option maxRecDepth 100000 in
theorem held_any (h : Fr w g K v s a b c d e f) : Calls Try.prog 32 #[.pointer (some ⟨g, 0, none⟩)] w (RV (.int .i64 s.kept.length) w) := by
  obtain ⟨A, c', rfl⟩ := h.form
  have k0 := (h.cs.2 0 (by omega)).1
  obtain ⟨n, hn⟩ : ∃ n, n = s.kept.length := ⟨_, rfl⟩
  have k0' : w.cell? ⟨g, 0, none⟩ = some (.slice A n c') := by rw [hn]; exact k0
  rw [← hn]
  clear h k0 hn
  go_enter Try.func32, Try.ntmps32
  go_wp2_with fail
  go_ret
  exact ⟨rfl, Below.refl _ _⟩
set_option maxRecDepth 100000 in
theorem frames_any (h : Fr w g K v s a b c d e f) : Calls Try.prog 41 #[.pointer (some ⟨g, 0, none⟩)] w (RV (.int .i64 s.frames) w) := by
  have HL := Lib.hid (load64_any ⟨g, 12, none⟩ s.frames w (h.cs.2 12 (by omega)).1)
  clear h
  go_enter Try.func41, Try.ntmps41
  go_wp2_with fail
  refine HL.out.mono ?_
  rintro r w1 ⟨rfl, rfl⟩
  go_wp2_with fail
  go_ret
  exact ⟨rfl, Below.refl _ _⟩
set_option maxRecDepth 100000 in
theorem closed_any (h : Fr w g K v s a b c d e f) : Calls Try.prog 33 #[.pointer (some ⟨g, 0, none⟩)] w (RB s.closed w) := by
  have HL := Lib.hid (load_any ⟨g, 11, none⟩ (if s.closed = true then 1 else 0) s.closed w (h.cs.2 11 (by omega)).1 (by cases s.closed <;> rfl))
  clear h
  go_enter Try.func33, Try.ntmps33
  go_wp2_with fail
  refine HL.out.mono ?_
  rintro r w1 ⟨rfl, rfl⟩
  go_wp2_with fail
  go_ret
  exact ⟨rfl, Below.refl _ _⟩
end
set_option maxRecDepth 100000 in
theorem held_nil (w : World) : Calls Try.prog 32 #[.pointer none] w (RV (.int .i64 0) w) := by
  go_enter Try.func32, Try.ntmps32
  go_wp2_with fail
  go_ret
  exact ⟨rfl, Below.refl _ _⟩
set_option maxRecDepth 100000 in
theorem frames_nil (w : World) : Calls Try.prog 41 #[.pointer none] w (RV (.int .i64 0) w) := by
  go_enter Try.func41, Try.ntmps41
  go_wp2_with fail
  go_ret
  exact ⟨rfl, Below.refl _ _⟩
set_option maxRecDepth 100000 in
theorem closed_nil (w : World) : Calls Try.prog 33 #[.pointer none] w (RB true w) := by
  go_enter Try.func33, Try.ntmps33
  go_wp2_with fail
  go_ret
  exact ⟨rfl, Below.refl _ _⟩
set_option maxRecDepth 100000 in
theorem set_nil (a b c d e f : Bool) (w : World) : Calls Try.prog 39 #[.pointer none, .agg #[.bool a, .bool b, .bool c, .bool d, .bool e, .bool f]] w fun r w' => r = .returned (.tuple #[]) ∧ Below w.heap.size w w' := by
  go_enter Try.func39, Try.ntmps39
  go_wp2_with fail
  first | go_end0 | refine bodyPost_ret (results_none rfl _ _ _) rfl ?_
  exact ⟨rfl, below_alloc (Below.refl _ _) _⟩

end Go.Proofs.Ytdiiolbkjmhmdaa
