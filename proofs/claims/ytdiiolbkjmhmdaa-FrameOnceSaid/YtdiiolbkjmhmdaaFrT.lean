/- The reference's events: cells that read as events; how its step ends. -/
import Derived.Test.YtdiiolbkjmhmdaaFrI
namespace Go.Proofs.Ytdiiolbkjmhmdaa
open Go.RowKit
set_option linter.unusedSimpArgs false
set_option linter.unusedVariables false

theorem Ch.setK {g k : Nat} {w w1 : World} (h : Ch g (some k) w w1) (o : Nat) (v : Value) : Ch g (some k) w (w1.setCell ⟨k, o, none⟩ v) :=
  ⟨h.os, h.tape, h.output, by simpa using h.size, fun j hj hg hK => by rw [Below.heap_setCell _ _ _ _ (by exact fun e => hK (by rw [e]))]; exact h.block j hj hg hK⟩
/-- The bytes lie at the block B or behind it. -/
def Fs (B : Nat) (A : Option Addr) (n : Nat) : Prop := 0 < n → ∀ a, A = some a → B ≤ a.block
theorem Fs.mono {B B' : Nat} {A : Option Addr} {n : Nat} (h : Fs B A n) (hB : B' ≤ B) : Fs B' A n := fun hp a ha => Nat.le_trans hB (h hp a ha)
theorem Fs.av {B : Nat} {A : Option Addr} {n g : Nat} {K : Option Nat} (h : Fs B A n) (hg : g < B) (hK : ∀ k, K = some k → k < B) : Av g K A n := fun hp a ha =>
  ⟨by have := h hp a ha; omega, fun e => by have := h hp a ha; have := hK _ e.symm; omega⟩
theorem Fs.own {w : World} {base : Nat} {e : TypeId} {size n m c : Nat} {A : Option Addr} {xs : List Value} (h : w.ownsRow base e size (.slice A m c) n xs) : Fs base A m := fun hp a ha => by
  rcases h.2 with ⟨e1, e2⟩ | ⟨g, cap, cur, e1, hb, _⟩
  · injection e1 with e1 e3 _; omega
  · injection e1 with e1 _ _
    rw [e1] at ha; injection ha with ha; subst ha; exact hb
/-- Six cells that read as an event, its bytes at B or behind it. -/
def EvW (w : World) (B : Nat) (x : List Value) (e : Ev) : Prop :=
  ∃ F nf cf D nd cd, x = [.slice F nf cf, .int .i64 e.va, .int .i64 e.vb, .int .i64 e.vc, .slice D nd cd, .int .i64 e.ve] ∧ nf = e.fr.length ∧ nd = e.ds.length ∧ RdB w (.slice F nf cf) e.fr ∧ Fs B F nf ∧ RdB w (.slice D nd cd) e.ds ∧ Fs B D nd
theorem EvW.below {w w1 : World} {B : Nat} {x : List Value} {e : Ev} (h : EvW w B x e) (hb : Below w.heap.size w w1) : EvW w1 B x e := by
  obtain ⟨F, nf, cf, D, nd, cd, rfl, h1, h2, h3, h4, h5, h6⟩ := h
  exact ⟨F, nf, cf, D, nd, cd, rfl, h1, h2, h3.below hb, h4, h5.below hb, h6⟩
theorem EvW.ch {w w1 : World} {B : Nat} {x : List Value} {e : Ev} {g : Nat} {K : Option Nat} (h : EvW w B x e) (hg : g < B) (hK : ∀ k, K = some k → k < B) (hc : Ch g K w w1) : EvW w1 B x e := by
  obtain ⟨F, nf, cf, D, nd, cd, rfl, h1, h2, h3, h4, h5, h6⟩ := h
  exact ⟨F, nf, cf, D, nd, cd, rfl, h1, h2, h3.ch (h4.av hg hK) hc, h4, h5.ch (h6.av hg hK) hc, h6⟩
theorem EvW.mono {w : World} {B B' : Nat} {x : List Value} {e : Ev} (h : EvW w B x e) (hB : B' ≤ B) : EvW w B' x e := by
  obtain ⟨F, nf, cf, D, nd, cd, rfl, h1, h2, h3, h4, h5, h6⟩ := h
  exact ⟨F, nf, cf, D, nd, cd, rfl, h1, h2, h3, h4.mono hB, h5, h6.mono hB⟩
theorem EvC.weak {w : World} {g : Nat} {K : Option Nat} {x : List Value} {e : Ev} (h : EvC w g K x e) : EvW w 0 x e := by
  obtain ⟨F, nf, cf, D, nd, cd, rfl, h1, h2, h3, h4, h5, h6, h7, h8⟩ := h
  exact ⟨F, nf, cf, D, nd, cd, rfl, h1, h2, h3, fun _ _ _ => Nat.zero_le _, h5, fun _ _ _ => Nat.zero_le _⟩
def EvLW (w : World) (B : Nat) (cs : List Value) (es : List Ev) : Prop :=
  cs.length = es.length * 6 ∧ ∀ i e, es[i]? = some e → EvW w B ((cs.drop (i * 6)).take 6) e
theorem EvL.weak {w : World} {g : Nat} {K : Option Nat} {cs : List Value} {es : List Ev} (h : EvL w g K cs es) : EvLW w 0 cs es := ⟨h.1, fun i e hi => (h.2 i e hi).weak⟩
theorem EvLW.nil (w : World) (B : Nat) : EvLW w B [] [] := ⟨rfl, fun i e h => by simp at h⟩
theorem EvLW.one {w : World} {B : Nat} {x : List Value} {e : Ev} (h : EvW w B x e) : EvLW w B x [e] := by
  obtain ⟨F, nf, cf, D, nd, cd, rfl, r⟩ := h
  refine ⟨rfl, fun i e' hi => ?_⟩
  match i with
  | 0 => obtain rfl : e = e' := by simpa using hi
         exact ⟨F, nf, cf, D, nd, cd, rfl, r⟩
  | i + 1 => simp at hi
theorem EvLW.below {w w1 : World} {B : Nat} {cs : List Value} {es : List Ev} (h : EvLW w B cs es) (hb : Below w.heap.size w w1) : EvLW w1 B cs es := ⟨h.1, fun i e hi => (h.2 i e hi).below hb⟩
theorem EvLW.ch {w w1 : World} {B : Nat} {cs : List Value} {es : List Ev} {g : Nat} {K : Option Nat} (h : EvLW w B cs es) (hg : g < B) (hK : ∀ k, K = some k → k < B) (hc : Ch g K w w1) : EvLW w1 B cs es := ⟨h.1, fun i e hi => (h.2 i e hi).ch hg hK hc⟩
theorem EvLW.mono {w : World} {B B' : Nat} {cs : List Value} {es : List Ev} (h : EvLW w B cs es) (hB : B' ≤ B) : EvLW w B' cs es := ⟨h.1, fun i e hi => (h.2 i e hi).mono hB⟩
theorem EvLW.append {w : World} {B : Nat} {cs ds : List Value} {es fs : List Ev} (h : EvLW w B cs es) (h2 : EvLW w B ds fs) : EvLW w B (cs ++ ds) (es ++ fs) := by
  refine ⟨by simp [h.1, h2.1]; omega, fun i e hi => ?_⟩
  by_cases hl : i < es.length
  · rw [List.getElem?_append_left hl] at hi
    rw [List.drop_append_of_le_length (by rw [h.1]; omega), List.take_append_of_le_length (by rw [List.length_drop, h.1]; omega)]
    exact h.2 i e hi
  · rw [List.getElem?_append_right (by omega)] at hi
    rw [List.drop_append, List.drop_of_length_le (by rw [h.1]; omega), List.nil_append, h.1, ← Nat.sub_mul]
    exact h2.2 _ e hi
theorem EvW.at {w : World} {B : Nat} {cs : List Value} {es : List Ev} (h : EvLW w B cs es) {i : Nat} {e : Ev} (hi : es[i]? = some e) :
    ∃ F cf D cd, cs[i * 6]? = some (.slice F e.fr.length cf) ∧ cs[i * 6 + 1]? = some (.int .i64 e.va) ∧ cs[i * 6 + 2]? = some (.int .i64 e.vb) ∧ cs[i * 6 + 3]? = some (.int .i64 e.vc) ∧ cs[i * 6 + 4]? = some (.slice D e.ds.length cd) ∧ cs[i * 6 + 5]? = some (.int .i64 e.ve) ∧
      RdB w (.slice F e.fr.length cf) e.fr ∧ RdB w (.slice D e.ds.length cd) e.ds := by
  obtain ⟨F, nf, cf, D, nd, cd, hx, rfl, rfl, h1, h2, h3, h4⟩ := h.2 i e hi
  have q : ∀ j, j < 6 → cs[i * 6 + j]? = ((cs.drop (i * 6)).take 6)[j]? := fun j hj => by rw [List.getElem?_take, if_pos hj, List.getElem?_drop]
  refine ⟨F, cf, D, cd, ?_, ?_, ?_, ?_, ?_, ?_, h1, h3⟩
  · have := q 0 (by omega); rw [hx] at this; simpa using this
  · rw [q 1 (by omega), hx]; rfl
  · rw [q 2 (by omega), hx]; rfl
  · rw [q 3 (by omega), hx]; rfl
  · rw [q 4 (by omega), hx]; rfl
  · rw [q 5 (by omega), hx]; rfl
/-- A slice of the reference's events, a row of the call's own. -/
def EvSW (w : World) (B : Nat) (v : Value) (es : List Ev) : Prop :=
  ∃ cs, w.ownsRow B 77 6 v es.length cs ∧ EvLW w B cs es
theorem EvSW.nil (w : World) (B : Nat) : EvSW w B (.slice none 0 0) [] := ⟨[], own_nil _ _ _ _, EvLW.nil _ _⟩
theorem EvSW.below {w w1 : World} {B : Nat} {v : Value} {es : List Ev} (h : EvSW w B v es) (hb : Below w.heap.size w w1) : EvSW w1 B v es := by
  obtain ⟨cs, h1, h2⟩ := h
  exact ⟨cs, own_below h1 hb, h2.below hb⟩
theorem EvSW.mono {w : World} {B B' : Nat} {v : Value} {es : List Ev} (h : EvSW w B v es) (hB : B' ≤ B) : EvSW w B' v es := by
  obtain ⟨cs, h1, h2⟩ := h
  exact ⟨cs, own_mono h1 hB, h2.mono hB⟩
theorem EvSW.ch {w w1 : World} {B : Nat} {v : Value} {es : List Ev} {g : Nat} {K : Option Nat} (h : EvSW w B v es) (hg : g < B) (hK : ∀ k, K = some k → k < B) (hc : Ch g K w w1) : EvSW w1 B v es := by
  obtain ⟨cs, h1, h2⟩ := h
  exact ⟨cs, own_ch h1 (fun k hk => ⟨by have := (h1.lt k hk).1; omega, fun e => by have := (h1.lt k hk).1; have := hK k e.symm; omega⟩) hc, h2.ch hg hK hc⟩
theorem EvSW.form {w : World} {B : Nat} {v : Value} {es : List Ev} (h : EvSW w B v es) : ∃ A c, v = .slice A es.length c := by
  obtain ⟨cs, h1, _⟩ := h
  exact own_form h1
theorem EvSW.lit {X : World} {x : Array Value} {e : Ev} {B b : Nat} (h : EvW (X.alloc (.cells x 77)) B x.toList e) (hb : b = X.heap.size) (hB : B ≤ X.heap.size) :
    EvSW (X.alloc (.cells x 77)).drew B (.slice (some ⟨b, 0, none⟩) 1 1) [e] := by
  subst hb
  have hl := (EvLW.one h).1
  refine ⟨x.toList, ⟨by simpa using hl, .inr ⟨X.heap.size, 1, x, rfl, hB, heap_alloc_new X _, Nat.le_refl _, by unfold maxLen; omega, by simpa using hl, ?_⟩⟩, EvLW.one (h.below (Below.refl _ _).drew)⟩
  rw [List.take_of_length_le (by simp at hl ⊢; omega)]

/-- What the reference's step hands back. -/
def OneP (a b c d e f : Bool) (s : St) (es : List Ev) (w : World) (r : Ending) (w' : World) : Prop :=
  ∃ A m cm v, r = .returned (.tuple #[.agg #[.bool a, .bool b, .bool c, .bool d, .bool e, .bool f, .slice A m cm, .int .i64 s.len, .bool s.closed, .int .i64 s.frames], v]) ∧ RdB w' (.slice A m cm) s.kept ∧ Fs w.heap.size A m ∧ EvSW w' w.heap.size v es ∧ Below w.heap.size w w'
section
variable {a b c d e f : Bool} {w w2 W X : World} {A : Option Addr} {m cm : Nat} {ks : List Int} {len fr : Int} {cl : Bool}
theorem one_bel (hbw : Below w.heap.size w w2) (hc : Ch w.heap.size (some (w.heap.size + 1)) w2 W) : Below w.heap.size w W :=
  hbw.trans (hc.bel hbw.size (Nat.le_refl _) (fun k hk => by injection hk with hk; omega))
theorem one_end0 (hbw : Below w.heap.size w w2) (hc : Ch w.heap.size (some (w.heap.size + 1)) w2 W) (hr : RdB w2 (.slice A m cm) ks) (hf : Fs (w.heap.size + 2) A m) :
    OneP a b c d e f ⟨ks, len, cl, fr⟩ [] w (.returned (.tuple #[.agg #[.bool a, .bool b, .bool c, .bool d, .bool e, .bool f, .slice A m cm, .int .i64 len, .bool cl, .int .i64 fr], .slice none 0 0])) W :=
  ⟨A, m, cm, _, rfl, hr.ch (hf.av (by omega) (fun k hk => by injection hk with hk; omega)) hc, hf.mono (by omega), EvSW.nil _ _, one_bel hbw hc⟩
theorem one_endE {x : Array Value} {ev : Ev} {p : Nat} (hbw : Below w.heap.size w w2) (hN : w.heap.size + 2 ≤ w2.heap.size) (hc : Ch w.heap.size (some (w.heap.size + 1)) w2 X) (he : EvW w2 (w.heap.size + 2) x.toList ev) (hp : p = X.heap.size) :
    OneP a b c d e f ⟨[], len, cl, fr⟩ [ev] w (.returned (.tuple #[.agg #[.bool a, .bool b, .bool c, .bool d, .bool e, .bool f, .slice none 0 0, .int .i64 len, .bool cl, .int .i64 fr], .slice (some ⟨p, 0, none⟩) 1 1])) (X.alloc (.cells x 77)).drew :=
  ⟨none, 0, 0, _, rfl, RdB.nil _ _ _ ⟨by omega, fun _ => rfl⟩, fun h => absurd h (by omega),
    (EvSW.lit (B := w.heap.size + 2) ((he.ch (by omega) (fun k hk => by injection hk with hk; omega) hc).below (below_alloc (Below.refl _ _) _)) hp (Nat.le_trans hN hc.size)).mono (by omega), one_bel hbw (hc.alloc _).drew⟩
end

end Go.Proofs.Ytdiiolbkjmhmdaa
