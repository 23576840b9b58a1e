/- How memory may turn while a framer is fed: its own block and the block of the bytes that it keeps. -/
import Derived.Test.YtdiiolbkjmhmdaaFrA
import Derived.Test.YtdiiolbkjmhmdaaHdW
namespace Go.Proofs.Ytdiiolbkjmhmdaa
open Go.RowKit
set_option linter.unusedSimpArgs false
set_option linter.unusedVariables false

/-- All blocks but g and K are as they were. -/
structure Ch (g : Nat) (K : Option Nat) (w w' : World) : Prop where
  os : w'.os = w.os
  tape : w'.tape = w.tape
  output : w'.output = w.output
  size : w.heap.size ≤ w'.heap.size
  block : ∀ k, k < w.heap.size → k ≠ g → some k ≠ K → w'.heap[k]? = w.heap[k]?
/-- The block K' is K, or none, or a new one. -/
def Nx (w : World) (K K' : Option Nat) : Prop := K' = none ∨ K' = K ∨ ∃ k, K' = some k ∧ w.heap.size ≤ k
theorem Nx.refl (w : World) (K : Option Nat) : Nx w K K := .inr (.inl rfl)
theorem Nx.trans {w w1 : World} {K K1 K2 : Option Nat} (h : Nx w K K1) (h2 : Nx w1 K1 K2) (hs : w.heap.size ≤ w1.heap.size) : Nx w K K2 := by
  rcases h2 with rfl | rfl | ⟨k, rfl, hk⟩
  · exact .inl rfl
  · exact h
  · exact .inr (.inr ⟨k, rfl, by omega⟩)
theorem Nx.ne {w : World} {K K' : Option Nat} (h : Nx w K K') {k : Nat} (hk : k < w.heap.size) (hK : some k ≠ K) : some k ≠ K' := by
  rcases h with rfl | rfl | ⟨j, rfl, hj⟩
  · exact nofun
  · exact hK
  · intro e; injection e with e; omega
theorem Ch.refl (g : Nat) (K : Option Nat) (w : World) : Ch g K w w := ⟨rfl, rfl, rfl, Nat.le_refl _, fun _ _ _ _ => rfl⟩
theorem Ch.trans {g : Nat} {K K1 : Option Nat} {w w1 w2 : World} (h : Ch g K w w1) (h2 : Ch g K1 w1 w2) (hn : Nx w K K1) : Ch g K w w2 :=
  ⟨h2.os.trans h.os, h2.tape.trans h.tape, h2.output.trans h.output, Nat.le_trans h.size h2.size, fun k hk hg hK => (h2.block k (Nat.lt_of_lt_of_le hk h.size) hg (hn.ne hk hK)).trans (h.block k hk hg hK)⟩
theorem Ch.below {g : Nat} {K : Option Nat} {w w1 w2 : World} (h : Ch g K w w1) (hb : Below w1.heap.size w1 w2) : Ch g K w w2 :=
  ⟨hb.os.trans h.os, hb.tape.trans h.tape, hb.output.trans h.output, Nat.le_trans h.size hb.size, fun k hk hg hK => (hb.block k (Nat.lt_of_lt_of_le hk h.size)).trans (h.block k hk hg hK)⟩
theorem Ch.of {g : Nat} {K : Option Nat} {w w1 : World} (hb : Below w.heap.size w w1) : Ch g K w w1 := (Ch.refl g K w).below hb
theorem Ch.alloc {g : Nat} {K : Option Nat} {w w1 : World} (h : Ch g K w w1) (o : Obj) : Ch g K w (w1.alloc o) := h.below (below_alloc (Below.refl _ _) o)
theorem Ch.drew {g : Nat} {K : Option Nat} {w w1 : World} (h : Ch g K w w1) : Ch g K w w1.drew := ⟨h.os, h.tape, h.output, h.size, h.block⟩
theorem Ch.drewN {g : Nat} {K : Option Nat} {w w1 : World} (h : Ch g K w w1) (n : Nat) : Ch g K w (w1.drewN n) := ⟨h.os, h.tape, h.output, h.size, h.block⟩
theorem Ch.set {g : Nat} {K : Option Nat} {w w1 : World} (h : Ch g K w w1) (o : Nat) (v : Value) : Ch g K w (w1.setCell ⟨g, o, none⟩ v) :=
  ⟨h.os, h.tape, h.output, by simpa using h.size, fun k hk hg hK => by rw [Below.heap_setCell _ _ _ _ (by exact hg)]; exact h.block k hk hg hK⟩
theorem Ch.grown {g : Nat} {K K1 : Option Nat} {w w1 w2 : World} (h : Ch g K w w1) (hg : w1.grownBy w2 K1) (hn : Nx w K K1) : Ch g K w w2 :=
  ⟨hg.os.trans h.os, hg.tape.trans h.tape, hg.output.trans h.output, Nat.le_trans h.size hg.size, fun k hk hk2 hK => (hg.block k (Nat.lt_of_lt_of_le hk h.size) (hn.ne hk hK)).trans (h.block k hk hk2 hK)⟩
/-- A store into a new block. -/
theorem Ch.setNew {g : Nat} {K : Option Nat} {w w1 : World} (h : Ch g K w w1) {p : Addr} (hp : w.heap.size ≤ p.block) (v : Value) : Ch g K w (w1.setCell p v) :=
  ⟨h.os, h.tape, h.output, by simpa using h.size, fun k hk hg hK => by rw [Below.heap_setCell _ _ _ _ (by omega)]; exact h.block k hk hg hK⟩
theorem Ch.cell {g : Nat} {K : Option Nat} {w w1 : World} (h : Ch g K w w1) {p : Addr} (hp : p.block < w.heap.size) (hg : p.block ≠ g) (hK : some p.block ≠ K) : w1.cell? p = w.cell? p := World.cell?_of_block (w := w) (h.block p.block hp hg hK)
theorem Ch.frozen {g : Nat} {K : Option Nat} {w w1 : World} (h : Ch g K w w1) {p : Addr} (hp : p.block < w.heap.size) (hg : p.block ≠ g) (hK : some p.block ≠ K) : w1.frozen? p = w.frozen? p := World.frozen?_of_block (w := w) (h.block p.block hp hg hK)
/-- What a framer does to memory that was there before the framer. -/
theorem Ch.bel {g : Nat} {K : Option Nat} {w w1 : World} (h : Ch g K w w1) {B : Nat} (hB : B ≤ w.heap.size) (hg : B ≤ g) (hK : ∀ k, K = some k → B ≤ k) : Below B w w1 :=
  ⟨h.os, h.tape, h.output, h.size, fun k hk => h.block k (by omega) (by omega) (fun e => by have := hK k e.symm; omega)⟩

/-- The slice (A, n) does not lie in g or K. -/
def Av (g : Nat) (K : Option Nat) (A : Option Addr) (n : Nat) : Prop := 0 < n → ∀ a, A = some a → a.block ≠ g ∧ some a.block ≠ K
theorem Av.zero (g : Nat) (K : Option Nat) (A : Option Addr) : Av g K A 0 := fun h => absurd h (by omega)
theorem RdB.lt {w : World} {A : Option Addr} {n c : Nat} {xs : List Int} (h : RdB w (.slice A n c) xs) (hp : 0 < n) : ∃ gm om, A = some ⟨gm, om, none⟩ ∧ gm < w.heap.size := by
  obtain ⟨-, -, A', c', e, -, -, h4⟩ := h
  injection e with e1 e2 e3
  subst e1 e2 e3
  obtain ⟨g, o, e, hg, _⟩ := h4 hp
  exact ⟨g, o, e, hg⟩
theorem RdB.ch {g : Nat} {K : Option Nat} {w w1 : World} {A : Option Addr} {n c : Nat} {xs : List Int} (h : RdB w (.slice A n c) xs) (ha : Av g K A n) (hc : Ch g K w w1) : RdB w1 (.slice A n c) xs := by
  obtain ⟨h0, h1, A', c', e, h3, h3', h4⟩ := h
  injection e with e1 e2 e3
  subst e1 e2 e3
  refine ⟨h0, h1, A, c, rfl, h3, h3', fun hp => ?_⟩
  obtain ⟨gm, om, e, hg, hcell⟩ := h4 hp
  have ha' := ha hp _ e
  exact ⟨gm, om, e, Nat.lt_of_lt_of_le hg hc.size, fun j hj => by rw [hc.cell (p := ⟨gm, om + j, none⟩) hg ha'.1 ha'.2]; exact hcell j hj⟩
theorem Av.nx {g : Nat} {K K1 : Option Nat} {w : World} {A : Option Addr} {n c : Nat} {xs : List Int} (ha : Av g K A n) (h : RdB w (.slice A n c) xs) (hn : Nx w K K1) : Av g K1 A n := fun hp a e => by
  obtain ⟨gm, om, e2, hg⟩ := h.lt hp
  have := ha hp a e
  rw [e2] at e
  injection e with e
  subst e
  exact ⟨this.1, hn.ne hg this.2⟩

/-- The cells of a framer. -/
def frV (v : Value) (s : St) (a b c d e f : Bool) : Nat → Value
  | 0 => v
  | 1 => .int .i64 s.want
  | 2 => .bool a
  | 3 => .bool b
  | 4 => .bool c
  | 5 => .bool d
  | 6 => .bool e
  | 7 => .bool f
  | 8 => .int .u32 (if s.closed = true then 1 else 0)
  | 9 => .int .i32 0
  | 10 => .int .u32 0
  | 11 => .int .u32 (if s.closed = true then 1 else 0)
  | _ => .int .i64 s.frames
def FrC (w : World) (g : Nat) (V : Nat → Value) : Prop := g < w.heap.size ∧ ∀ j, j < 13 → w.cell? ⟨g, j, none⟩ = some (V j) ∧ w.frozen? ⟨g, j, none⟩ = false
theorem FrC.below {w w1 : World} {g : Nat} {V : Nat → Value} (h : FrC w g V) (hb : Below w.heap.size w w1) : FrC w1 g V :=
  ⟨Nat.lt_of_lt_of_le h.1 hb.size, fun j hj => ⟨by rw [hb.cell h.1]; exact (h.2 j hj).1, by rw [hb.frozen h.1]; exact (h.2 j hj).2⟩⟩
theorem FrC.set {w : World} {g : Nat} {V : Nat → Value} (h : FrC w g V) (k : Nat) (v : Value) (V' : Nat → Value) (h1 : k < 13 → V' k = v) (h2 : ∀ j, j ≠ k → V' j = V j) : FrC (w.setCell ⟨g, k, none⟩ v) g V' := by
  refine ⟨by simpa using h.1, fun j hj => ⟨?_, by rw [World.frozen?_setCell]; exact (h.2 j hj).2⟩⟩
  by_cases e : j = k
  · subst e; rw [World.cell?_setCell_same _ _ _ (h.2 j hj).1, h1 hj]
  · rw [World.cell?_setCell_other _ _ _ _ (addr_ne (.inr (Ne.symm e))), (h.2 j hj).1, h2 j e]
theorem FrC.grown {w w1 : World} {g : Nat} {V : Nat → Value} {K : Option Nat} (h : FrC w g V) (hg : w.grownBy w1 K) (hK : some g ≠ K) : FrC w1 g V := by
  have hb := hg.block g h.1 hK
  exact ⟨Nat.lt_of_lt_of_le h.1 hg.size, fun j hj => ⟨by rw [World.cell?_of_block (w := w) (a := ⟨g, j, none⟩) hb]; exact (h.2 j hj).1, by rw [World.frozen?_of_block (w := w) (a := ⟨g, j, none⟩) hb]; exact (h.2 j hj).2⟩⟩
/-- The framer at block g in the state s, its kept bytes the value v in block K. -/
structure Fr (w : World) (g : Nat) (K : Option Nat) (v : Value) (s : St) (a b c d e f : Bool) : Prop where
  cs : FrC w g (frV v s a b c d e f)
  own : w.ownsRow 0 5 1 v s.kept.length (bv s.kept)
  blk : v.ownBlock = K
  ne : some g ≠ K
  ok : Ok s
theorem Fr.below {w w1 : World} {g : Nat} {K : Option Nat} {v : Value} {s : St} {a b c d e f : Bool} (h : Fr w g K v s a b c d e f) (hb : Below w.heap.size w w1) : Fr w1 g K v s a b c d e f :=
  ⟨h.cs.below hb, own_below h.own hb, h.blk, h.ne, h.ok⟩
theorem Fr.lt {w : World} {g : Nat} {K : Option Nat} {v : Value} {s : St} {a b c d e f : Bool} (h : Fr w g K v s a b c d e f) : ∀ k, K = some k → k < w.heap.size := fun k hk => (h.own.lt k (h.blk.trans hk)).2
theorem Fr.glt {w : World} {g : Nat} {K : Option Nat} {v : Value} {s : St} {a b c d e f : Bool} (h : Fr w g K v s a b c d e f) : g < w.heap.size := h.cs.1
/-- The kept bytes read as their list. -/
theorem Fr.rd {w : World} {g : Nat} {K : Option Nat} {v : Value} {s : St} {a b c d e f : Bool} (h : Fr w g K v s a b c d e f) : RdB w v s.kept :=
  RdB.own h.own h.ok.bytes (by have := h.ok.len_lt; unfold maxB; omega)
theorem Fr.form {w : World} {g : Nat} {K : Option Nat} {v : Value} {s : St} {a b c d e f : Bool} (h : Fr w g K v s a b c d e f) : ∃ A c', v = .slice A s.kept.length c' := own_form h.own

/-- append onto a row of one's own: the new row is the old one, or lies in a new block. -/
theorem run_append_own2 {P : Program} (w : World) (t ty e : TypeId) (i : TypeInfo) (z : Value) (size bytes : Nat) (ht : P.underlying t = some (.slice e)) (hi : P.info? e = some i) (hz : i.zero = some z)
    (hsize : i.size = size) (hby : i.bytes = bytes) (hzs : z.cells.size = size) (hsz : 0 < size)
    (v : Value) (n : Nat) (xs : List Value) (hown : w.ownsRow 0 e size v n xs)
    (a : Addr) (m c : Nat) (news : List Value) (hl : news.length = m * size) (hnews : ∀ j u, news[j]? = some u → w.cell? (a.add j) = some u) (h1 : ∀ u ∈ news, u.oneCell' = true)
    (h63 : n + m ≤ maxLen) (hbytes : (n + m) * bytes ≤ 140737488355328) :
    ∃ v' w', (Go.Builtin.append_ #[t, t] ty #[v, .slice (some a) m c]).run P w = .ok v' w' ∧ w'.ownsRow 0 e size v' (n + m) (xs ++ news) ∧ w.grownBy w' v.ownBlock ∧ Nx w v.ownBlock v'.ownBlock := by
  by_cases hv : v = .slice none 0 0
  · subst hv
    have hown' : w.ownsRow w.heap.size e size (.slice none 0 0) n xs := by
      refine ⟨hown.1, ?_⟩
      rcases hown.2 with ⟨_, hn⟩ | ⟨g, cap, cur, e1, _⟩
      · exact .inl ⟨rfl, hn⟩
      · cases e1
    obtain ⟨v', w', hrun, r1, r2, _⟩ := run_append_own (P := P) w w.heap.size t ty e i z size bytes ht hi hz hsize hby hzs hsz (.slice none 0 0) n xs hown' a m c news hl hnews h1 h63 hbytes (Nat.le_refl _)
    refine ⟨v', w', hrun, own_mono r1 (Nat.zero_le _), r2, ?_⟩
    cases hb : v'.ownBlock with
    | none => exact .inl rfl
    | some k => exact .inr (.inr ⟨k, rfl, (r1.lt k hb).1⟩)
  · obtain ⟨v', w', hrun, r1, r2, _⟩ := run_append_own (P := P) w 0 t ty e i z size bytes ht hi hz hsize hby hzs hsz v n xs hown a m c news hl hnews h1 h63 hbytes (Nat.zero_le _)
    refine ⟨v', w', hrun, r1, r2, ?_⟩
    rcases hown.2 with ⟨e1, _⟩ | ⟨g, cap, cur, rfl, _, hg, hnc, hcm, hcs, ht'⟩
    · exact absurd e1 hv
    by_cases hroom : n + m ≤ cap
    · have hr := run_append_room (P := P) w t ty e i ht hi g n cap cur hg a m c news (by rw [hl, hsize]) hnews h1 hroom (by rw [hl, hsize, hcs, ← Nat.add_mul]; exact Nat.mul_le_mul_right _ hroom)
      rw [hrun] at hr
      injection hr with e1 e2
      subst e1
      exact .inr (.inl rfl)
    · have hold : (Go.Builtin.firstCells i.size n (.slice (some ⟨g, 0, none⟩) n cap)).run P w.drew = .ok xs.toArray w.drew := by
        have := run_firstCells_some (P := P) w.drew i.size n ⟨g, 0, none⟩ n cap xs (by rw [hown.1, hsize]) (fun j u hu => by
          show w.cell? _ = _
          exact hown.cells (g := g) rfl j u hu)
        exact this
      have hr := run_append_grow_src (P := P) w t t ty e i z ht hi hz (some ⟨g, 0, none⟩) n cap xs hold (.slice (some a) m c) m news (Src.ofSlice w ht a m c news (by rw [hl, hsize]) hnews h1) (by omega)
        (by unfold maxLen at h63; omega)
        (growslice_fits (by omega) (by rw [hby]; omega))
      rw [hrun] at hr
      injection hr with e1 e2
      subst e1
      exact .inr (.inr ⟨_, rfl, Nat.le_refl _⟩)

end Go.Proofs.Ytdiiolbkjmhmdaa
