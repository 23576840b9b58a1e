/- For the framer's step: what holds around the region of Parse. -/
import Derived.Test.YtdiiolbkjmhmdaaFrR
import Derived.Test.YtdiiolbkjmhmdaaFrP
import Derived.Deep.RegionWith
import Derived.Deep.RegionHeld3
namespace Go.Proofs.Ytdiiolbkjmhmdaa
open Go.RowKit
set_option linter.unusedSimpArgs false
set_option linter.unusedVariables false

theorem RdB.rest {w w1 : World} {g : Nat} {K K1 : Option Nat} {gm om om' m cm k : Nat} {bs : List Int} (h : RdB w (.slice (some ⟨gm, om, none⟩) m cm) bs) (hav : Av g K (some ⟨gm, om, none⟩) m) (hc : Ch g K w w1) (hn : Nx w K K1) (hk : k ≤ m) (ho : k < m → om' = om + k) :
    RdB w1 (.slice (some ⟨gm, om', none⟩) (m - k) (cm - k)) (bs.drop k) ∧ Av g K1 (some ⟨gm, om', none⟩) (m - k) := by
  have hl := h.len
  have h1 := h.ch hav hc
  have hl2 : (bs.drop k).length = m - k := by rw [List.length_drop, ← hl.1]
  refine ⟨⟨fun x hx => h.1 x (List.mem_of_mem_drop hx), by rw [hl2]; have := h.2.1; rw [← hl.1] at this; omega, some ⟨gm, om', none⟩, cm - k, by rw [hl2], by rw [hl2]; omega, ⟨by omega, fun h => nomatch h⟩, fun hp => ?_⟩, fun hp a ha => ?_⟩
  · rw [hl2] at hp
    obtain ⟨-, -, A1, c1, e, -, -, h4⟩ := h1
    injection e with e1 e2 e3
    obtain ⟨gm', o', e, hg, hcell⟩ := h4 (by omega)
    rw [← e1] at e
    injection e with e
    injection e with e4 e5
    subst e4 e5
    refine ⟨gm, om', rfl, hg, fun j hj => ?_⟩
    rw [hl2] at hj
    rw [ho (by omega), getD_drop, Nat.add_assoc]
    exact hcell _ (by omega)
  · injection ha with ha
    subst ha
    obtain ⟨gm', o', e, hlt⟩ := h.lt (by omega)
    injection e with e
    injection e with e4 e5
    subst e4
    have := hav (by omega) _ rfl
    exact ⟨this.1, hn.ne hlt this.2⟩

theorem own_mid {w : World} {base : Nat} {v : Value} {n : Nat} {xs : List Int} {g : Nat} (h : w.ownsRow base 5 1 v n (bv xs)) (hn : n = xs.length) (hx : ∀ x ∈ xs, 0 ≤ x ∧ x ≤ 255) (hl : xs.length ≤ maxB) (hne : v.ownBlock ≠ some g) : ∃ A c, v = .slice A n c ∧ RdB w (.slice A n c) xs ∧ Av g none A n ∧ (∀ a, A = some a → ∀ j, j < n → w.frozen? ⟨a.block, a.off + j, none⟩ = false) := by
  subst hn
  obtain ⟨A, c, rfl⟩ := own_form h
  refine ⟨A, c, rfl, RdB.own h hx hl, fun hp a ha => ⟨fun e => hne (by subst ha; simp [Value.ownBlock, e]), nofun⟩, fun a ha j hj => ?_⟩
  rcases h.2 with ⟨e, _⟩ | ⟨g', cap, cur, e, _, hg, _⟩
  · injection e with e1; rw [e1] at ha; cases ha
  · injection e with e1
    rw [e1] at ha
    injection ha with ha
    subst ha
    simp [World.frozen?, hg]

/-- What step leaves. -/
def StepP (b : Bool) (g : Nat) (K : Option Nat) (s : St) (a b' c d e f : Bool) (bs : List Int) (w : World) (r : Ending) (w' : World) : Prop :=
  ∃ M m c' O no co v' K' s' rest evs, r = .returned (.tuple #[.slice M m c', .slice O no co]) ∧ m = rest.length ∧ no = evs.length ∧ RdB w' (.slice M m c') rest ∧ Av g K' M m ∧ EvS w' g K' w.heap.size (.slice O no co) evs ∧ Fr w' g K' v' s' a b' c d e f ∧ Ch g K w w' ∧ Nx w K K' ∧ Good b s bs rest evs s'

theorem StepP.fail {b : Bool} {g : Nat} {K K1 : Option Nat} {s : St} {a b' c d e f : Bool} {bs : List Int} {w wc w2 : World} {v2 : Value} {ev : Ev} (hE : EvS w2 g none wc.heap.size v2 [ev]) (hF : Fr w2 g none (.slice none 0 0) (shut s) a b' c d e f) (hC : Ch g K1 wc w2) (hchx : Ch g K w wc) (hnx : Nx w K K1) (hG : Good b s bs [] [ev] (shut s)) :
    StepP b g K s a b' c d e f bs w (.returned (.tuple #[.slice none 0 0, v2])) w2 := by
  obtain ⟨O, co, rfl⟩ := hE.form
  obtain ⟨cs, h1, h2, h3⟩ := hE
  exact ⟨none, 0, 0, O, 1, co, _, none, shut s, [], [ev], rfl, rfl, rfl, RdB.nil _ _ _ ⟨by omega, fun _ => rfl⟩, Av.zero _ _ _, ⟨cs, own_mono h1 hchx.size, h2, h3⟩, hF, hchx.trans hC hnx, .inl rfl, hG⟩
theorem hdr_vc0 {b : Bool} {xs : List Int} : (hdr b xs).va = 0 → (hdr b xs).vc = 0 := by
  unfold hdr
  split
  · simp
  · repeat' split
    all_goals simp
/-- Behind the call of Parse and the stores of what it handed back. -/
def HvP (w1 : World) (n k va vb vc ve : Int) (ds : List Int) (s6 s7 : Value) (wx : World) : Prop :=
  ∃ H Q D nd cd, s6 = .pointer (some ⟨H, 0, none⟩) ∧ s7 = .pointer (some ⟨Q, 0, none⟩) ∧ w1.heap.size ≤ H ∧ w1.heap.size ≤ Q ∧ H < wx.heap.size ∧ Q < wx.heap.size ∧ Below w1.heap.size w1 wx ∧
    (wx.cell? ⟨H, 0, none⟩ = some (.int .i64 n) ∧ wx.cell? ⟨H, 1, none⟩ = some (.int .i64 k)) ∧
    (wx.cell? ⟨Q, 0, none⟩ = some (.int .i64 va) ∧ wx.cell? ⟨Q, 1, none⟩ = some (.int .i64 vb) ∧ wx.cell? ⟨Q, 2, none⟩ = some (.int .i64 vc) ∧ wx.cell? ⟨Q, 3, none⟩ = some (.slice D nd cd) ∧ wx.cell? ⟨Q, 4, none⟩ = some (.int .i64 ve)) ∧
    RdB wx (.slice D nd cd) ds ∧ nd = ds.length ∧ (0 < nd → ∀ x, D = some x → w1.heap.size ≤ x.block)
/-- What every world of the region of Parse keeps. -/
def HvS (w1 : World) (g : Nat) (v : Value) (a b c d e f : Bool) (W : World) : Prop :=
  Below w1.heap.size w1 W ∧ W.cell? ⟨g, 0, none⟩ = some v ∧ W.cell? ⟨g, 2, none⟩ = some (.bool a) ∧ W.cell? ⟨g, 3, none⟩ = some (.bool b) ∧ W.cell? ⟨g, 4, none⟩ = some (.bool c) ∧ W.cell? ⟨g, 5, none⟩ = some (.bool d) ∧ W.cell? ⟨g, 6, none⟩ = some (.bool e) ∧ W.cell? ⟨g, 7, none⟩ = some (.bool f)
theorem HvS.bel {w1 W : World} {g : Nat} {v : Value} {a b c d e f : Bool} (h : HvS w1 g v a b c d e f W) : Below w1.heap.size w1 W := h.1
theorem HvS.step {w1 W W' : World} {g : Nat} {v : Value} {a b c d e f : Bool} (hg : g < w1.heap.size) (h : HvS w1 g v a b c d e f W) (hb : Below w1.heap.size w1 W') : HvS w1 g v a b c d e f W' :=
  ⟨hb, by rw [hb.cell hg, ← h.1.cell hg]; exact h.2.1, by rw [hb.cell hg, ← h.1.cell hg]; exact h.2.2.1, by rw [hb.cell hg, ← h.1.cell hg]; exact h.2.2.2.1, by rw [hb.cell hg, ← h.1.cell hg]; exact h.2.2.2.2.1, by rw [hb.cell hg, ← h.1.cell hg]; exact h.2.2.2.2.2.1, by rw [hb.cell hg, ← h.1.cell hg]; exact h.2.2.2.2.2.2.1, by rw [hb.cell hg, ← h.1.cell hg]; exact h.2.2.2.2.2.2.2⟩
theorem HvS.drew {w1 W : World} {g : Nat} {v : Value} {a b c d e f : Bool} (h : HvS w1 g v a b c d e f W) : HvS w1 g v a b c d e f W.drew := ⟨h.1.drew, h.2⟩
theorem HvS.alloc {w1 W : World} {g : Nat} {v : Value} {a b c d e f : Bool} {o : Obj} (hg : g < w1.heap.size) (h : HvS w1 g v a b c d e f W) : HvS w1 g v a b c d e f (W.alloc o) := h.step hg (below_alloc h.1 o)
theorem HvS.next {w1 W W' : World} {g : Nat} {v : Value} {a b c d e f : Bool} (hg : g < w1.heap.size) (hb : Below W.heap.size W W') (h : HvS w1 g v a b c d e f W) : HvS w1 g v a b c d e f W' := h.step hg (below_then' h.1 hb)
theorem HvS.set {w1 W : World} {g : Nat} {v u : Value} {a b c d e f : Bool} {p : Addr} (hg : g < w1.heap.size) (h : HvS w1 g v a b c d e f W) (hp : w1.heap.size ≤ p.block) : HvS w1 g v a b c d e f (W.setCell p u) := h.step hg (h.1.setCell hp u)
theorem bel_in {W w2 : World} (hb : Below W.heap.size W w2) (p : Nat) (cs : Array Value) (ty : TypeId) (h : W.heap[p]? = some (.cells cs ty)) : (∀ j v, cs[j]? = some v → w2.cell? ⟨p, j, none⟩ = some v ∧ ∀ o, (w2.alloc o).cell? ⟨p, j, none⟩ = some v) ∧ (∀ j, w2.frozen? ⟨p, j, none⟩ = false) ∧ ∀ o j, (w2.alloc o).frozen? ⟨p, j, none⟩ = false := by
  have hp : p < W.heap.size := (Array.getElem?_eq_some_iff.1 h).1
  have hp2 : p < w2.heap.size := by have := hb.size; omega
  have h1 : ∀ j v, cs[j]? = some v → w2.cell? ⟨p, j, none⟩ = some v := fun j v hj => by rw [hb.cell hp]; simp [World.cell?, h, hj]
  have h2 : ∀ j, w2.frozen? ⟨p, j, none⟩ = false := fun j => by rw [hb.frozen hp]; simp [World.frozen?, h]
  exact ⟨fun j v hj => ⟨h1 j v hj, fun o => by rw [World.cell?_alloc_past _ _ _ hp2]; exact h1 j v hj⟩, h2, fun o j => by rw [World.frozen?_alloc_past _ _ _ hp2]; exact h2 j⟩
theorem heap_at1 (w : World) (o : Obj) : (w.alloc o).drew.heap[w.heap.size]? = some o := by show (w.heap.push o)[w.heap.size]? = some o; simp
theorem heap_at2 (w : World) (o o' : Obj) : ((w.alloc o).alloc o').drew.heap[w.heap.size]? = some o := by
  show ((w.heap.push o).push o')[w.heap.size]? = some o
  rw [Array.getElem?_push_lt (by simp), Array.getElem_push_eq]
theorem heap_at3 (w : World) (o o' : Obj) : ((w.alloc o).alloc o').drew.heap[w.heap.size + 1]? = some o' := by
  show ((w.heap.push o).push o')[w.heap.size + 1]? = some o'
  have := Array.getElem?_push_size (xs := w.heap.push o) (x := o')
  rwa [Array.size_push] at this
theorem bel_z1 {w w2 : World} {o : Obj} (hb : Below (w.alloc o).drew.heap.size (w.alloc o).drew w2) : w.heap.size < w2.heap.size ∧ ¬ w.heap.size = w2.heap.size := by
  have := hb.size
  simp at this
  omega
theorem bel_z2 {w w2 : World} {o o' : Obj} (hb : Below ((w.alloc o).alloc o').drew.heap.size ((w.alloc o).alloc o').drew w2) : w.heap.size < w2.heap.size ∧ ¬ w.heap.size = w2.heap.size ∧ w.heap.size + 1 < w2.heap.size ∧ ¬ w.heap.size + 1 = w2.heap.size := by
  have := hb.size
  simp at this
  omega
theorem set_ne {p q : Nat} (h : ¬ p = q) (W : World) (j k : Nat) (u : Value) : (W.setCell ⟨p, j, none⟩ u).cell? ⟨q, k, none⟩ = W.cell? ⟨q, k, none⟩ := World.cell?_of_block (Below.heap_setCell _ _ _ _ (fun e => h e.symm))
theorem set_nf {p q : Nat} (h : ¬ p = q) (W : World) (j k : Nat) (u : Value) : (W.setCell ⟨p, j, none⟩ u).frozen? ⟨q, k, none⟩ = W.frozen? ⟨q, k, none⟩ := World.frozen?_of_block (Below.heap_setCell _ _ _ _ (fun e => h e.symm))
theorem HvS.set' {w1 W : World} {g : Nat} {v u : Value} {a b c d e f : Bool} {p : Addr} (hp : w1.heap.size ≤ p.block) (hg : g < w1.heap.size) (h : HvS w1 g v a b c d e f W) : HvS w1 g v a b c d e f (W.setCell p u) := h.set hg hp
def InB (w2 : World) (p : Nat) (cs : Array Value) : Prop := (∀ j v, cs[j]? = some v → w2.cell? ⟨p, j, none⟩ = some v ∧ ∀ o, (w2.alloc o).cell? ⟨p, j, none⟩ = some v) ∧ (∀ j, w2.frozen? ⟨p, j, none⟩ = false) ∧ ∀ o j, (w2.alloc o).frozen? ⟨p, j, none⟩ = false
theorem bel_in1 {w w2 : World} {cs : Array Value} {ty : TypeId} (hb : Below (w.alloc (.cells cs ty)).drew.heap.size (w.alloc (.cells cs ty)).drew w2) : InB w2 w.heap.size cs := bel_in hb _ _ _ (heap_at1 w _)
theorem bel_in2 {w w2 : World} {cs cs' : Array Value} {ty ty' : TypeId} (hb : Below ((w.alloc (.cells cs ty)).alloc (.cells cs' ty')).drew.heap.size ((w.alloc (.cells cs ty)).alloc (.cells cs' ty')).drew w2) : InB w2 w.heap.size cs ∧ InB w2 (w.heap.size + 1) cs' := ⟨bel_in hb _ _ _ (heap_at2 w _ _), bel_in hb _ _ _ (heap_at3 w _ _)⟩
theorem bel_le {w w2 : World} (hb : Below w.drew.heap.size w.drew w2) : w.heap.size ≤ w2.heap.size := hb.size
theorem rd_set {w : World} {D : Option Addr} {n c : Nat} {ds : List Int} (h : RdB w (.slice D n c) ds) {B : Nat} (hf : 0 < n → ∀ x, D = some x → x.block ≠ B) (j : Nat) (u : Value) : RdB (w.setCell ⟨B, j, none⟩ u) (.slice D n c) ds :=
  h.ch (g := B) (K := none) (fun hp x hx => ⟨hf hp x hx, nofun⟩) ((Ch.refl _ _ _).set j u)
/-- Behind the look at the header: at least 19 bytes are kept, L are wanted. -/
def MidP (b : Bool) (g : Nat) (K : Option Nat) (s : St) (a b' c d e f : Bool) (bs : List Int) (w : World) (s1 : Value) (wx : World) : Prop :=
  ∃ gm om m cm rest kept A c0 K2 L, s1 = .slice (some ⟨gm, om, none⟩) m cm ∧ RdB wx (.slice (some ⟨gm, om, none⟩) m cm) rest ∧ Av g K2 (some ⟨gm, om, none⟩) m ∧
    FrC wx g (frV (.slice A kept.length c0) ⟨kept, L, s.closed, s.frames⟩ a b' c d e f) ∧ wx.ownsRow 0 5 1 (.slice A kept.length c0) kept.length (bv kept) ∧ (Value.slice A kept.length c0).ownBlock = K2 ∧ some g ≠ K2 ∧ Ch g K w wx ∧ Nx w K K2 ∧
    (∀ x ∈ kept, 0 ≤ x ∧ x ≤ 255) ∧ 19 ≤ kept.length ∧ (kept.length : Int) ≤ L ∧ L ≤ 65535 ∧
    ∀ k : Nat, (k : Int) = min (L - kept.length) m → if ((kept.length + k : Nat) : Int) < L then Good b s bs (rest.drop k) [] ⟨kept ++ rest.take k, L, s.closed, s.frames⟩ else Good b s bs (rest.drop k) [evF (kept ++ rest.take k)] ⟨[], L, s.closed, s.frames + 1⟩

/-- The block p holds at least these cells. -/
def BlkIs (w : World) (p : Nat) (cs : List Value) : Prop := p < w.heap.size ∧ ∀ j v, cs[j]? = some v → w.cell? ⟨p, j, none⟩ = some v
theorem BlkIs.new (w : World) (cs : Array Value) (ty : TypeId) : BlkIs (w.alloc (.cells cs ty)) w.heap.size cs.toList := ⟨by simp, fun j v hj => by rw [World.cell?_alloc_at _ _ _ _ rfl]; simpa using hj⟩
theorem BlkIs.alloc {w : World} {p : Nat} {cs : List Value} (h : BlkIs w p cs) (o : Obj) : BlkIs (w.alloc o) p cs := ⟨by have := h.1; simp; omega, fun j v hj => by rw [World.cell?_alloc_past _ _ _ h.1]; exact h.2 j v hj⟩
theorem BlkIs.set {w : World} {p q : Nat} {cs : List Value} (h : BlkIs w p cs) (hq : ¬ q = p) (j : Nat) (u : Value) : BlkIs (w.setCell ⟨q, j, none⟩ u) p cs := ⟨by have := h.1; simpa using this, fun i v hi => by rw [set_ne hq]; exact h.2 i v hi⟩
theorem BlkIs.setIn {w : World} {p : Nat} {cs : List Value} (h : BlkIs w p cs) (j : Nat) (u : Value) : BlkIs (w.setCell ⟨p, j, none⟩ u) p (cs.set j u) := by
  refine ⟨by have := h.1; simpa using this, fun i v hi => ?_⟩
  rw [List.getElem?_set] at hi
  by_cases e : j = i
  · subst e
    rw [if_pos rfl] at hi
    split at hi
    · rename_i hl
      injection hi with hi
      subst hi
      exact World.cell?_setCell_same _ _ _ (h.2 j _ (List.getElem?_eq_getElem hl))
    · cases hi
  · rw [if_neg e] at hi
    rw [World.cell?_setCell_other _ _ _ _ (addr_ne (.inr e))]
    exact h.2 i v hi
theorem BlkIs.inB {W w2 : World} (hb : Below W.heap.size W w2) {p : Nat} {cs : Array Value} {ty : TypeId} (h : W.heap[p]? = some (.cells cs ty)) : BlkIs w2 p cs.toList := by
  have hp : p < W.heap.size := (Array.getElem?_eq_some_iff.1 h).1
  exact ⟨Nat.lt_of_lt_of_le hp hb.size, fun j v hj => ((bel_in hb p cs ty h).1 j v (by simpa using hj)).1⟩
theorem HvP.mk6 {w1 wx : World} {n k va vb vc ve : Int} {ds : List Int} {D : Option Addr} {nd cd : Nat} (hS : Below w1.heap.size w1 wx) {H Q : Nat} (hH : w1.heap.size ≤ H) (hQ : w1.heap.size ≤ Q) (cH : BlkIs wx H [.int .i64 n, .int .i64 k]) (cQ : BlkIs wx Q [.int .i64 va, .int .i64 vb, .int .i64 vc, .slice D nd cd, .int .i64 ve])
    (hrd : RdB wx (.slice D nd cd) ds) (hnd : nd = ds.length) (hf : 0 < nd → ∀ x, D = some x → w1.heap.size ≤ x.block) : HvP w1 n k va vb vc ve ds (.pointer (some ⟨H, 0, none⟩)) (.pointer (some ⟨Q, 0, none⟩)) wx :=
  ⟨H, Q, D, nd, cd, rfl, rfl, hH, hQ, cH.1, cQ.1, hS, ⟨cH.2 0 _ rfl, cH.2 1 _ rfl⟩, ⟨cQ.2 0 _ rfl, cQ.2 1 _ rfl, cQ.2 2 _ rfl, cQ.2 3 _ rfl, cQ.2 4 _ rfl⟩, hrd, hnd, hf⟩

section
variable {w1 w2 : World} {n k va vb vc ve : Int} {ds : List Int} {D : Option Addr} {cd : Nat} {x0 x1 y0 y1 y2 y3 y4 : Value} {tx ty : TypeId}
theorem HvP.f1 (hx : RdB w2 (.slice D ds.length cd) ds ∧ Below w1.drew.heap.size w1.drew w2 ∧ (0 < ds.length → ∀ x, D = some x → w1.drew.heap.size ≤ x.block)) :
    HvP w1 n k va vb vc ve ds (.pointer (some ⟨w2.heap.size, 0, none⟩)) (.pointer (some ⟨w2.heap.size + 1, 0, none⟩)) ((w2.alloc (.cells #[.int .i64 n, .int .i64 k] tx)).alloc (.cells #[.int .i64 va, .int .i64 vb, .int .i64 vc, .slice D ds.length cd, .int .i64 ve] ty)) := by
  obtain ⟨h1, h2, h3⟩ := hx
  have hz : w1.heap.size ≤ w2.heap.size := h2.size
  have hb : Below w1.heap.size w1 w2 := ⟨h2.os, h2.tape, h2.output, h2.size, h2.block⟩
  refine HvP.mk6 (below_alloc (below_alloc hb _) _) hz (by omega) ((BlkIs.new _ _ _).alloc _) ?_ ((h1.alloc _).alloc _) rfl h3
  have := BlkIs.new (w2.alloc (.cells #[.int .i64 n, .int .i64 k] tx)) #[.int .i64 va, .int .i64 vb, .int .i64 vc, .slice D ds.length cd, .int .i64 ve] ty
  simpa using this
theorem HvP.f2 (hx : RdB w2 (.slice D ds.length cd) ds ∧ Below w1.drew.heap.size w1.drew w2 ∧ (0 < ds.length → ∀ x, D = some x → w1.drew.heap.size ≤ x.block)) :
    HvP w1 n k va vb vc ve ds (.pointer (some ⟨w2.heap.size + 1, 0, none⟩)) (.pointer (some ⟨w2.heap.size, 0, none⟩)) ((w2.alloc (.cells #[.int .i64 va, .int .i64 vb, .int .i64 vc, .slice D ds.length cd, .int .i64 ve] ty)).alloc (.cells #[.int .i64 n, .int .i64 k] tx)) := by
  obtain ⟨h1, h2, h3⟩ := hx
  have hz : w1.heap.size ≤ w2.heap.size := h2.size
  have hb : Below w1.heap.size w1 w2 := ⟨h2.os, h2.tape, h2.output, h2.size, h2.block⟩
  refine HvP.mk6 (below_alloc (below_alloc hb _) _) (by omega) hz ?_ ((BlkIs.new _ _ _).alloc _) ((h1.alloc _).alloc _) rfl h3
  have := BlkIs.new (w2.alloc (.cells #[.int .i64 va, .int .i64 vb, .int .i64 vc, .slice D ds.length cd, .int .i64 ve] ty)) #[.int .i64 n, .int .i64 k] tx
  simpa using this
theorem HvP.f3 (hx : RdB w2 (.slice D ds.length cd) ds ∧ Below (w1.alloc (.cells #[x0, x1] tx)).drew.heap.size (w1.alloc (.cells #[x0, x1] tx)).drew w2 ∧ (0 < ds.length → ∀ x, D = some x → (w1.alloc (.cells #[x0, x1] tx)).drew.heap.size ≤ x.block)) :
    HvP w1 n k va vb vc ve ds (.pointer (some ⟨w1.heap.size, 0, none⟩)) (.pointer (some ⟨w2.heap.size, 0, none⟩)) (((w2.setCell ⟨w1.heap.size, 0, none⟩ (.int .i64 n)).setCell ⟨w1.heap.size, 1, none⟩ (.int .i64 k)).alloc (.cells #[.int .i64 va, .int .i64 vb, .int .i64 vc, .slice D ds.length cd, .int .i64 ve] ty)) := by
  obtain ⟨h1, h2, h3⟩ := hx
  have hz := (bel_z1 h2).1
  have hf : 0 < ds.length → ∀ x, D = some x → x.block ≠ w1.heap.size := fun hp x hx => by have := h3 hp x hx; simp at this; omega
  have hb : Below w1.heap.size w1 w2 := below_then' (below_alloc (Below.refl _ _) _).drew h2
  have c0 : BlkIs w2 w1.heap.size [x0, x1] := BlkIs.inB h2 (heap_at1 w1 _)
  refine HvP.mk6 (below_alloc ((hb.setCell (Nat.le_refl _) _).setCell (Nat.le_refl _) _) _) (Nat.le_refl _) (Nat.le_of_lt hz) (((c0.setIn 0 _).setIn 1 _).alloc _) ?_ ((rd_set (rd_set h1 hf _ _) hf _ _).alloc _) rfl (fun hp x hx => by have := h3 hp x hx; simp at this; omega)
  have := BlkIs.new ((w2.setCell ⟨w1.heap.size, 0, none⟩ (.int .i64 n)).setCell ⟨w1.heap.size, 1, none⟩ (.int .i64 k)) #[.int .i64 va, .int .i64 vb, .int .i64 vc, .slice D ds.length cd, .int .i64 ve] ty
  simpa using this
theorem HvP.f5 (hx : RdB w2 (.slice D ds.length cd) ds ∧ Below (w1.alloc (.cells #[y0, y1, y2, y3, y4] ty)).drew.heap.size (w1.alloc (.cells #[y0, y1, y2, y3, y4] ty)).drew w2 ∧ (0 < ds.length → ∀ x, D = some x → (w1.alloc (.cells #[y0, y1, y2, y3, y4] ty)).drew.heap.size ≤ x.block)) :
    HvP w1 n k va vb vc ve ds (.pointer (some ⟨w2.heap.size, 0, none⟩)) (.pointer (some ⟨w1.heap.size, 0, none⟩)) ((((((w2.setCell ⟨w1.heap.size, 0, none⟩ (.int .i64 va)).setCell ⟨w1.heap.size, 1, none⟩ (.int .i64 vb)).setCell ⟨w1.heap.size, 2, none⟩ (.int .i64 vc)).setCell ⟨w1.heap.size, 3, none⟩ (.slice D ds.length cd)).setCell ⟨w1.heap.size, 4, none⟩ (.int .i64 ve)).alloc (.cells #[.int .i64 n, .int .i64 k] tx)) := by
  obtain ⟨h1, h2, h3⟩ := hx
  have hz := (bel_z1 h2).1
  have hf : 0 < ds.length → ∀ x, D = some x → x.block ≠ w1.heap.size := fun hp x hx => by have := h3 hp x hx; simp at this; omega
  have hb : Below w1.heap.size w1 w2 := below_then' (below_alloc (Below.refl _ _) _).drew h2
  have c0 : BlkIs w2 w1.heap.size [y0, y1, y2, y3, y4] := BlkIs.inB h2 (heap_at1 w1 _)
  refine HvP.mk6 (below_alloc (((((hb.setCell (Nat.le_refl _) _).setCell (Nat.le_refl _) _).setCell (Nat.le_refl _) _).setCell (Nat.le_refl _) _).setCell (Nat.le_refl _) _) _) (Nat.le_of_lt hz) (Nat.le_refl _) ?_ ((((((c0.setIn 0 _).setIn 1 _).setIn 2 _).setIn 3 _).setIn 4 _).alloc _) ((rd_set (rd_set (rd_set (rd_set (rd_set h1 hf _ _) hf _ _) hf _ _) hf _ _) hf _ _).alloc _) rfl (fun hp x hx => by have := h3 hp x hx; simp at this; omega)
  have := BlkIs.new (((((w2.setCell ⟨w1.heap.size, 0, none⟩ (.int .i64 va)).setCell ⟨w1.heap.size, 1, none⟩ (.int .i64 vb)).setCell ⟨w1.heap.size, 2, none⟩ (.int .i64 vc)).setCell ⟨w1.heap.size, 3, none⟩ (.slice D ds.length cd)).setCell ⟨w1.heap.size, 4, none⟩ (.int .i64 ve)) #[.int .i64 n, .int .i64 k] tx
  simpa using this
theorem HvP.f4 (hx : RdB w2 (.slice D ds.length cd) ds ∧ Below ((w1.alloc (.cells #[x0, x1] tx)).alloc (.cells #[y0, y1, y2, y3, y4] ty)).drew.heap.size ((w1.alloc (.cells #[x0, x1] tx)).alloc (.cells #[y0, y1, y2, y3, y4] ty)).drew w2 ∧ (0 < ds.length → ∀ x, D = some x → ((w1.alloc (.cells #[x0, x1] tx)).alloc (.cells #[y0, y1, y2, y3, y4] ty)).drew.heap.size ≤ x.block)) :
    HvP w1 n k va vb vc ve ds (.pointer (some ⟨w1.heap.size, 0, none⟩)) (.pointer (some ⟨w1.heap.size + 1, 0, none⟩)) (((((((w2.setCell ⟨w1.heap.size, 0, none⟩ (.int .i64 n)).setCell ⟨w1.heap.size, 1, none⟩ (.int .i64 k)).setCell ⟨w1.heap.size + 1, 0, none⟩ (.int .i64 va)).setCell ⟨w1.heap.size + 1, 1, none⟩ (.int .i64 vb)).setCell ⟨w1.heap.size + 1, 2, none⟩ (.int .i64 vc)).setCell ⟨w1.heap.size + 1, 3, none⟩ (.slice D ds.length cd)).setCell ⟨w1.heap.size + 1, 4, none⟩ (.int .i64 ve)) := by
  obtain ⟨h1, h2, h3⟩ := hx
  have hf : 0 < ds.length → ∀ x, D = some x → x.block ≠ w1.heap.size := fun hp x hx => by have := h3 hp x hx; simp at this; omega
  have hf' : 0 < ds.length → ∀ x, D = some x → x.block ≠ w1.heap.size + 1 := fun hp x hx => by have := h3 hp x hx; simp at this; omega
  have hb : Below w1.heap.size w1 w2 := below_then' (below_alloc (below_alloc (Below.refl _ _) _) _).drew h2
  have c0 : BlkIs w2 w1.heap.size [x0, x1] := BlkIs.inB h2 (heap_at2 w1 _ _)
  have c1 : BlkIs w2 (w1.heap.size + 1) [y0, y1, y2, y3, y4] := BlkIs.inB h2 (heap_at3 w1 _ _)
  have n1 : ¬ w1.heap.size + 1 = w1.heap.size := by omega
  have n2 : ¬ w1.heap.size = w1.heap.size + 1 := by omega
  have l1 : w1.heap.size ≤ w1.heap.size + 1 := by omega
  exact HvP.mk6 (((((((hb.setCell (Nat.le_refl _) _).setCell (Nat.le_refl _) _).setCell l1 _).setCell l1 _).setCell l1 _).setCell l1 _).setCell l1 _) (Nat.le_refl _) l1 (((((((c0.setIn 0 _).setIn 1 _).set n1 _ _).set n1 _ _).set n1 _ _).set n1 _ _).set n1 _ _) (((((((c1.set n2 _ _).set n2 _ _).setIn 0 _).setIn 1 _).setIn 2 _).setIn 3 _).setIn 4 _)
    (rd_set (rd_set (rd_set (rd_set (rd_set (rd_set (rd_set h1 hf _ _) hf _ _) hf' _ _) hf' _ _) hf' _ _) hf' _ _) hf' _ _) rfl (fun hp x hx => by have := h3 hp x hx; simp at this; omega)
theorem HvP.f6 (hx : RdB w2 (.slice D ds.length cd) ds ∧ Below ((w1.alloc (.cells #[y0, y1, y2, y3, y4] ty)).alloc (.cells #[x0, x1] tx)).drew.heap.size ((w1.alloc (.cells #[y0, y1, y2, y3, y4] ty)).alloc (.cells #[x0, x1] tx)).drew w2 ∧ (0 < ds.length → ∀ x, D = some x → ((w1.alloc (.cells #[y0, y1, y2, y3, y4] ty)).alloc (.cells #[x0, x1] tx)).drew.heap.size ≤ x.block)) :
    HvP w1 n k va vb vc ve ds (.pointer (some ⟨w1.heap.size + 1, 0, none⟩)) (.pointer (some ⟨w1.heap.size, 0, none⟩)) (((((((w2.setCell ⟨w1.heap.size + 1, 0, none⟩ (.int .i64 n)).setCell ⟨w1.heap.size + 1, 1, none⟩ (.int .i64 k)).setCell ⟨w1.heap.size, 0, none⟩ (.int .i64 va)).setCell ⟨w1.heap.size, 1, none⟩ (.int .i64 vb)).setCell ⟨w1.heap.size, 2, none⟩ (.int .i64 vc)).setCell ⟨w1.heap.size, 3, none⟩ (.slice D ds.length cd)).setCell ⟨w1.heap.size, 4, none⟩ (.int .i64 ve)) := by
  obtain ⟨h1, h2, h3⟩ := hx
  have hf : 0 < ds.length → ∀ x, D = some x → x.block ≠ w1.heap.size := fun hp x hx => by have := h3 hp x hx; simp at this; omega
  have hf' : 0 < ds.length → ∀ x, D = some x → x.block ≠ w1.heap.size + 1 := fun hp x hx => by have := h3 hp x hx; simp at this; omega
  have hb : Below w1.heap.size w1 w2 := below_then' (below_alloc (below_alloc (Below.refl _ _) _) _).drew h2
  have c0 : BlkIs w2 (w1.heap.size + 1) [x0, x1] := BlkIs.inB h2 (heap_at3 w1 _ _)
  have c1 : BlkIs w2 w1.heap.size [y0, y1, y2, y3, y4] := BlkIs.inB h2 (heap_at2 w1 _ _)
  have n1 : ¬ w1.heap.size = w1.heap.size + 1 := by omega
  have n2 : ¬ w1.heap.size + 1 = w1.heap.size := by omega
  have l1 : w1.heap.size ≤ w1.heap.size + 1 := by omega
  exact HvP.mk6 (((((((hb.setCell l1 _).setCell l1 _).setCell (Nat.le_refl _) _).setCell (Nat.le_refl _) _).setCell (Nat.le_refl _) _).setCell (Nat.le_refl _) _).setCell (Nat.le_refl _) _) l1 (Nat.le_refl _) (((((((c0.setIn 0 _).setIn 1 _).set n1 _ _).set n1 _ _).set n1 _ _).set n1 _ _).set n1 _ _) (((((((c1.set n2 _ _).set n2 _ _).setIn 0 _).setIn 1 _).setIn 2 _).setIn 3 _).setIn 4 _)
    (rd_set (rd_set (rd_set (rd_set (rd_set (rd_set (rd_set h1 hf' _ _) hf' _ _) hf _ _) hf _ _) hf _ _) hf _ _) hf _ _) rfl (fun hp x hx => by have := h3 hp x hx; simp at this; omega)
end

end Go.Proofs.Ytdiiolbkjmhmdaa
