/- For the law FrameMatches: the slice of the operations' bytes; the two states side by side. -/
import Derived.Test.YtdiiolbkjmhmdaaCuB
import Derived.Test.YtdiiolbkjmhmdaaOpE
namespace Go.Proofs.Ytdiiolbkjmhmdaa
open Go.RowKit
set_option linter.unusedSimpArgs false
set_option linter.unusedVariables false

theorem Try.infoS : (Try.prog.info? 24).map (fun i => (i.zero, i.size, i.bytes)) = some (some (.slice none 0 0), 1, 24) := by kernel_rfl
/-- append of one cell. -/
theorem append_cell {P : Program} {w : World} {ops : Array Oper} {rest : List Oper} {o : Oper} {a : Act} {Q : Exit → Act → World → Prop} (hgd : o.guard = none) (s x : Operand) (t : TypeId)
    (ho : o.op = .call { callee := .builtin .append, args := #[s, x], argTypes := #[t, t] })
    (e : TypeId) (i : TypeInfo) (z : Value) (bytes : Nat) (ht : P.underlying t = some (.slice e)) (hi : P.info? e = some i) (hz : i.zero = some z)
    (hsize : i.size = 1) (hby : i.bytes = bytes) (hzs : z.cells.size = 1) (W0 : World) (hb : Below W0.heap.size W0 w)
    (v : Value) (n : Nat) (xs : List Value) (hs : a.eval s = v) (hown : w.ownsRow W0.heap.size e 1 v n xs)
    (g c : Nat) (u : Value) (hx : a.eval x = .slice (some ⟨g, 0, none⟩) 1 c) (hu : w.cell? ⟨g, 0, none⟩ = some u) (h1 : u.oneCell' = true) (h63 : n + 1 ≤ maxLen) (hbytes : (n + 1) * bytes ≤ 140737488355328)
    (h : ∀ v' w', w'.ownsRow W0.heap.size e 1 v' (n + 1) (xs ++ [u]) → Below W0.heap.size W0 w' → wpList P ops Q rest (a.put o.dst v') w') : wpList P ops Q (o :: rest) a w :=
  wpList_append_own w hgd s x t ho W0.heap.size e i z 1 bytes ht hi hz hsize hby hzs (by omega) v n xs hs hown ⟨g, 0, none⟩ 1 c [u] hx rfl (fun j u' hu' => by
      match j with
      | 0 => injection hu' with hu'; subst hu'; rw [add_plain']; exact hu
      | j + 1 => simp at hu') (fun u' hu' => by simp at hu'; subst hu'; exact h1) h63 hbytes hb.size
    (fun v' w' ho' hg' _ => h v' w' ho' (hb.grown hg' hb.size (fun k hk => (hown.lt k hk).1)))
/-- An operation whose slice is no giant. -/
def OpB (W : World) (g o : Nat) (x : Opr) : Prop :=
  ∃ B c, W.cell? ⟨g, o, none⟩ = some (.int .i64 x.k) ∧ W.cell? ⟨g, o + 1, none⟩ = some (.slice B x.l c) ∧ W.cell? ⟨g, o + 2, none⟩ = some (.bool x.a) ∧ W.cell? ⟨g, o + 3, none⟩ = some (.bool x.b) ∧ W.cell? ⟨g, o + 4, none⟩ = some (.bool x.c) ∧ W.cell? ⟨g, o + 5, none⟩ = some (.bool x.d) ∧ W.cell? ⟨g, o + 6, none⟩ = some (.bool x.e) ∧ W.cell? ⟨g, o + 7, none⟩ = some (.bool x.f) ∧ RdB W (.slice B x.l c) x.bs
def sl (os : List Opr) (j : Nat) : Nat := ((os.map Opr.l).take j).sum
theorem sl_succ {os : List Opr} {j : Nat} {x : Opr} (h : os[j]? = some x) : sl os (j + 1) = sl os j + x.l := by
  have hj := (List.getElem?_eq_some_iff.1 h).1
  have he := (List.getElem?_eq_some_iff.1 h).2
  unfold sl
  rw [List.take_succ_eq_append_getElem (by simpa using hj), List.sum_append]
  simp [he]
theorem sl_le (os : List Opr) (j : Nat) : sl os j ≤ (os.map Opr.l).sum := by
  unfold sl
  conv => rhs; rw [← List.take_append_drop j (os.map Opr.l)]
  rw [List.sum_append]; omega
/-- A store of the six truth values of options. -/
def RSet6 (N : Nat) (a b c d e f : Bool) (w : World) : World :=
  (((((w.setCell ⟨N, 0, none⟩ (.bool a)).setCell ⟨N, 1, none⟩ (.bool b)).setCell ⟨N, 2, none⟩ (.bool c)).setCell ⟨N, 3, none⟩ (.bool d)).setCell ⟨N, 4, none⟩ (.bool e)).setCell ⟨N, 5, none⟩ (.bool f)
/-- A store of 'closed' and of no kept bytes. -/
def RSet2 (N : Nat) (w : World) : World := (w.setCell ⟨N, 8, none⟩ (.bool true)).setCell ⟨N, 6, none⟩ (.slice none 0 0)
/-- The reference's framer at block M. -/
def RVar (M : Nat) (a b c d e f : Bool) (A : Option Addr) (m cm : Nat) (S : St) (w : World) : Prop :=
  BlkIs w M [.bool a, .bool b, .bool c, .bool d, .bool e, .bool f, .slice A m cm, .int .i64 S.len, .bool S.closed, .int .i64 S.frames] ∧ ∀ j, w.frozen? ⟨M, j, none⟩ = false
section
variable {M : Nat} {a b c d e f : Bool} {A : Option Addr} {m cm : Nat} {S : St} {w w' : World}
theorem RVar.ch (h : RVar M a b c d e f A m cm S w) {g : Nat} {K : Option Nat} (hc : Ch g K w w') (hg : M ≠ g) (hK : some M ≠ K) : RVar M a b c d e f A m cm S w' :=
  ⟨⟨Nat.lt_of_lt_of_le h.1.1 hc.size, fun j v hj => by rw [hc.cell h.1.1 hg hK]; exact h.1.2 j v hj⟩, fun j => by rw [hc.frozen h.1.1 hg hK]; exact h.2 j⟩
theorem RVar.below (h : RVar M a b c d e f A m cm S w) (hb : Below w.heap.size w w') : RVar M a b c d e f A m cm S w' :=
  ⟨⟨Nat.lt_of_lt_of_le h.1.1 hb.size, fun j v hj => by rw [hb.cell h.1.1]; exact h.1.2 j v hj⟩, fun j => by rw [hb.frozen h.1.1]; exact h.2 j⟩
theorem RVar.set (h : RVar M a b c d e f A m cm S w) (A' : Option Addr) (m' cm' : Nat) (S' : St) : RVar M a b c d e f A' m' cm' S' (RSet M a b c d e f A' m' cm' S' w) := by
  refine ⟨((((((((((h.1.setIn 0 (.bool a)).setIn 1 (.bool b)).setIn 2 (.bool c)).setIn 3 (.bool d)).setIn 4 (.bool e)).setIn 5 (.bool f)).setIn 6 (.slice A' m' cm')).setIn 7 (.int .i64 S'.len)).setIn 8 (.bool S'.closed)).setIn 9 (.int .i64 S'.frames)), fun j => ?_⟩
  unfold RSet
  iterate 10 rw [World.frozen?_setCell]
  exact h.2 j
theorem RVar.set6 (h : RVar M a b c d e f A m cm S w) (a' b' c' d' e' f' : Bool) : RVar M a' b' c' d' e' f' A m cm S (RSet6 M a' b' c' d' e' f' w) := by
  refine ⟨((((((h.1.setIn 0 (.bool a')).setIn 1 (.bool b')).setIn 2 (.bool c')).setIn 3 (.bool d')).setIn 4 (.bool e')).setIn 5 (.bool f')), fun j => ?_⟩
  unfold RSet6
  iterate 6 rw [World.frozen?_setCell]
  exact h.2 j
theorem RVar.set2 (h : RVar M a b c d e f A m cm S w) : RVar M a b c d e f none 0 0 (shut S) (RSet2 M w) := by
  refine ⟨((h.1.setIn 8 (.bool true)).setIn 6 (.slice none 0 0)), fun j => ?_⟩
  unfold RSet2
  iterate 2 rw [World.frozen?_setCell]
  exact h.2 j
theorem RSet6.ch (N : Nat) (K : Option Nat) (a b c d e f : Bool) (w : World) : Ch N K w (RSet6 N a b c d e f w) := (((((Ch.refl _ _ _).set _ _).set _ _).set _ _).set _ _).set _ _ |>.set _ _
theorem RSet2.ch (N : Nat) (K : Option Nat) (w : World) : Ch N K w (RSet2 N w) := ((Ch.refl _ _ _).set _ _).set _ _
end
theorem Fr.chO {w w1 : World} {g : Nat} {K : Option Nat} {v : Value} {s : St} {a b c d e f : Bool} (h : Fr w g K v s a b c d e f) {M : Nat} (hc : Ch M none w w1) (h1 : g ≠ M) (h2 : ∀ k, K = some k → k ≠ M) : Fr w1 g K v s a b c d e f := by
  refine ⟨⟨Nat.lt_of_lt_of_le h.glt hc.size, fun j hj => ⟨?_, ?_⟩⟩, ⟨h.own.1, ?_⟩, h.blk, h.ne, h.ok⟩
  · rw [hc.cell h.glt h1 nofun]; exact (h.cs.2 j hj).1
  · rw [hc.frozen h.glt h1 nofun]; exact (h.cs.2 j hj).2
  · rcases h.own.2 with hn | ⟨g', cap, cur, e, p1, p2, p3⟩
    · exact .inl hn
    · have hk : some g' = K := by rw [← h.blk, e]; rfl
      exact .inr ⟨g', cap, cur, e, p1, by rw [hc.block g' (h.lt g' hk.symm) (h2 g' hk.symm) nofun]; exact p2, p3⟩
theorem shut_same {S : St} (h1 : S.closed = true) (h2 : S.kept = []) : shut S = S := by
  cases S
  simp only at h1 h2
  subst h1 h2
  rfl
/-- The program's framer and the reference's, side by side. -/
structure MSt (B0 g M : Nat) (wB wr : World) (K : Option Nat) (v : Value) (a b c d e f : Bool) (S : St) (A : Option Addr) (m cm : Nat) : Prop where
  fr : Fr wr g K v S a b c d e f
  var : RVar M a b c d e f A m cm S wr
  rd : RdB wr (.slice A m cm) S.kept
  av : Av g K A m
  avM : Av M none A m
  kM : ∀ k, K = some k → M < k
  bel : Below B0 wB wr
section
variable {B0 g M : Nat} {wB wr W : World} {K : Option Nat} {v : Value} {a b c d e f : Bool} {S : St} {A : Option Addr} {m cm : Nat}
theorem MSt.below (h : MSt B0 g M wB wr K v a b c d e f S A m cm) (hB : B0 ≤ wr.heap.size) (hb : Below wr.heap.size wr W) : MSt B0 g M wB W K v a b c d e f S A m cm :=
  ⟨h.fr.below hb, h.var.below hb, h.rd.below hb, h.av, h.avM, h.kM, h.bel.trans (hb.mono hB)⟩
/-- Feed, on both sides. -/
theorem MSt.feed (h : MSt B0 g M wB wr K v a b c d e f S A m cm) (hBg : B0 ≤ g) (hgM : g < M) {w5 w7 w9 : World} {S' : St} {A5 : Option Addr} {m5 c5 : Nat} {K7 : Option Nat} {v7 : Value} (hb5 : Below wr.heap.size wr w5) (hr5 : RdB w5 (.slice A5 m5 c5) S'.kept) (hf5 : Fs wr.heap.size A5 m5 ∨ (A5 = A ∧ m5 = m))
    (hF7 : Fr w7 g K7 v7 S' a b c d e f) (hc7 : Ch g K (RSet M a b c d e f A5 m5 c5 S' w5) w7) (hn7 : Nx (RSet M a b c d e f A5 m5 c5 S' w5) K K7) (hb9 : Below w7.heap.size w7 w9) : MSt B0 g M wB w9 K7 v7 a b c d e f S' A5 m5 c5 := by
  have hM := h.var.1.1
  have hc5 := RSet.ch M none a b c d e f A5 m5 c5 S' w5
  have hv5 := (h.var.below hb5).set A5 m5 c5 S'
  obtain ⟨R, hR⟩ : ∃ R, R = RSet M a b c d e f A5 m5 c5 S' w5 := ⟨_, rfl⟩
  rw [← hR] at hc7 hn7 hc5 hv5
  clear hR
  have hs5 := hb5.size
  have hs6 := hc5.size
  have hKM : ∀ k, K = some k → k ≠ M := fun k hk => by have := h.kM k hk; omega
  have hKlt : ∀ k, K = some k → k < wr.heap.size := h.fr.lt
  have hglt := h.fr.glt
  have avM5 : Av M none A5 m5 := by
    rcases hf5 with h1 | ⟨rfl, rfl⟩
    · exact h1.av hM nofun
    · exact h.avM
  have av5 : Av g K A5 m5 := by
    rcases hf5 with h1 | ⟨rfl, rfl⟩
    · exact h1.av hglt hKlt
    · exact h.av
  have hr6 := hr5.ch avM5 hc5
  have hs7 := hc7.size
  refine ⟨hF7.below hb9, (hv5.ch hc7 (by omega) (fun e => hKM M e.symm rfl)).below hb9, (hr6.ch av5 hc7).below hb9, av5.nx hr6 hn7, avM5, fun k hk => ?_, ?_⟩
  · rcases hn7 with h1 | h1 | ⟨k', h1, hk'⟩
    · rw [h1] at hk; cases hk
    · rw [h1] at hk; exact h.kM k hk
    · rw [h1] at hk; injection hk with hk; omega
  · have b1 : Below B0 wB w5 := h.bel.trans (hb5.mono (by omega))
    have b2 : Below B0 w5 R := hc5.bel (by omega) (by omega) (fun k hk => by cases hk)
    have b3 : Below B0 R w7 := hc7.bel (by omega) hBg (fun k hk => by have := h.kM k hk; omega)
    exact ((b1.trans b2).trans b3).trans (hb9.mono (by omega))
/-- Set, on both sides. -/
theorem MSt.setO (h : MSt B0 g M wB wr K v a b c d e f S A m cm) (hBg : B0 ≤ g) (hgM : g < M) {w5 : World} {a' b' c' d' e' f' : Bool} (hF5 : Fr w5 g K v S a' b' c' d' e' f') (hc5 : Ch g K wr w5) : MSt B0 g M wB (RSet6 M a' b' c' d' e' f' w5) K v a' b' c' d' e' f' S A m cm := by
  have hc6 := RSet6.ch M none a' b' c' d' e' f' w5
  have hv5 := (h.var.ch hc5 (by omega) (fun e => by have := h.kM M e.symm; omega)).set6 a' b' c' d' e' f'
  obtain ⟨R, hR⟩ : ∃ R, R = RSet6 M a' b' c' d' e' f' w5 := ⟨_, rfl⟩
  rw [← hR] at hc6 hv5 ⊢
  clear hR
  have hglt := h.fr.glt
  have hs5 := hc5.size
  refine ⟨hF5.chO hc6 (by omega) (fun k hk => by have := h.kM k hk; omega), hv5, (h.rd.ch h.av hc5).ch h.avM hc6, h.av, h.avM, h.kM, ?_⟩
  have b1 : Below B0 wr w5 := hc5.bel (by omega) hBg (fun k hk => by have := h.kM k hk; omega)
  have b2 : Below B0 w5 R := hc6.bel (by omega) (by omega) (fun k hk => by cases hk)
  exact (h.bel.trans b1).trans b2
/-- Close, on both sides. -/
theorem MSt.closeO (h : MSt B0 g M wB wr K v a b c d e f S A m cm) (hBg : B0 ≤ g) (hgM : g < M) {w5 : World} {K5 : Option Nat} {v5 : Value} (hF5 : Fr w5 g K5 v5 (shut S) a b c d e f) (hK5 : ∀ k, K5 = some k → M < k) (hc5 : Ch g K wr w5) : MSt B0 g M wB (RSet2 M w5) K5 v5 a b c d e f (shut S) none 0 0 := by
  have hc6 := RSet2.ch M none w5
  have hv5 := (h.var.ch hc5 (by omega) (fun e => by have := h.kM M e.symm; omega)).set2
  obtain ⟨R, hR⟩ : ∃ R, R = RSet2 M w5 := ⟨_, rfl⟩
  rw [← hR] at hc6 hv5 ⊢
  clear hR
  have hglt := h.fr.glt
  have hs5 := hc5.size
  refine ⟨hF5.chO hc6 (by omega) (fun k hk => by have := hK5 k hk; omega), hv5, RdB.nil _ _ _ ⟨by omega, fun _ => rfl⟩, Av.zero _ _ _, Av.zero _ _ _, hK5, ?_⟩
  have b1 : Below B0 wr w5 := hc5.bel (by omega) hBg (fun k hk => by have := h.kM k hk; omega)
  have b2 : Below B0 w5 R := hc6.bel (by omega) (by omega) (fun k hk => by cases hk)
  exact (h.bel.trans b1).trans b2
end

end Go.Proofs.Ytdiiolbkjmhmdaa
