/- The reference's Feed. -/
import Derived.Test.YtdiiolbkjmhmdaaFrK
import Derived.Test.YtdiiolbkjmhmdaaFrQ
import Derived.Test.YtdiiolbkjmhmdaaFrL
import Derived.Lib.AppendZeros
import Derived.Deep.DeepCutAuto
import Derived.Deep.RegionHeld3
namespace Go.Proofs.Ytdiiolbkjmhmdaa
open Go.RowKit
set_option linter.unusedSimpArgs false
set_option linter.unusedVariables false

theorem one_len (b : Bool) (s : St) (c : Int) : (one b s c).1.kept.length ≤ s.kept.length + 1 := by
  unfold one
  split
  · split
    · simp
    · split
      · simp
      · simp
  · split
    · simp
    · simp
theorem one_frames (b : Bool) (s : St) (c : Int) : s.frames ≤ (one b s c).1.frames ∧ (one b s c).1.frames ≤ s.frames + 1 ∧ (one b s c).2.length ≤ 1 := by
  unfold one
  split
  · split
    · simp; omega
    · split
      · simp; omega
      · simp; omega
  · split
    · simp; omega
    · simp; omega
/-- A slice among the cells lies at B or behind it, and is there. -/
theorem EvLW.data {w : World} {B : Nat} {cs : List Value} {es : List Ev} (h : EvLW w B cs es) : ∀ u ∈ cs, ∀ a n c, u = .slice (some a) n c → 0 < n → B ≤ a.block ∧ a.block < w.heap.size := fun u hu a n c hu2 hn => by
  obtain ⟨j, hj, e⟩ := List.mem_iff_getElem.1 hu
  have hi : j / 6 < es.length := by have := h.1; omega
  obtain ⟨F, nf, cf, D, nd, cd, hx, h1, h2, r1, f1, r2, f2⟩ := h.2 _ _ (List.getElem?_eq_getElem hi)
  have e' : cs[j]? = some u := by rw [List.getElem?_eq_getElem hj, e]
  have hm : j % 6 < 6 := by omega
  have q : ((cs.drop (j / 6 * 6)).take 6)[j % 6]? = some u := by rw [List.getElem?_take, if_pos hm, List.getElem?_drop, show j / 6 * 6 + j % 6 = j by omega]; exact e'
  rw [hx, hu2] at q
  have key : ∀ (A : Option Addr) (k ck : Nat) (ys : List Int), RdB w (.slice A k ck) ys → Fs B A k → Value.slice A k ck = .slice (some a) n c → B ≤ a.block ∧ a.block < w.heap.size := fun A k ck ys hr hf he => by
    injection he with e1 e2 e3
    subst e1 e2 e3
    obtain ⟨gm, om, e4, hlt⟩ := hr.lt hn
    injection e4 with e4
    subst e4
    exact ⟨hf hn _ rfl, hlt⟩
  match hk : j % 6, hm with
  | 0, _ => rw [hk] at q; injection q with q; exact key _ _ _ _ r1 f1 q
  | 1, _ => rw [hk] at q; injection q with q; cases q
  | 2, _ => rw [hk] at q; injection q with q; cases q
  | 3, _ => rw [hk] at q; injection q with q; cases q
  | 4, _ => rw [hk] at q; injection q with q; exact key _ _ _ _ r2 f2 q
  | 5, _ => rw [hk] at q; injection q with q; cases q
def CsAv (K : Option Nat) (cs : List Value) : Prop := ∀ u ∈ cs, ∀ a n c, u = .slice (some a) n c → 0 < n → some a.block ≠ K
theorem RdB.grown {w w1 : World} {K : Option Nat} {A : Option Addr} {n c : Nat} {xs : List Int} (h : RdB w (.slice A n c) xs) (hg : w.grownBy w1 K) (hK : 0 < n → ∀ a, A = some a → some a.block ≠ K) : RdB w1 (.slice A n c) xs :=
  h.ch (g := w.heap.size) (K := K) (fun hp a ha => ⟨by obtain ⟨gm, om, e, hlt⟩ := h.lt hp; rw [e] at ha; injection ha with ha; rw [← ha]; show gm ≠ _; omega, hK hp a ha⟩) ((Ch.refl _ _ _).grown hg (Nx.refl _ _))
theorem EvLW.grown {w w1 : World} {B : Nat} {K : Option Nat} {cs : List Value} {es : List Ev} (h : EvLW w B cs es) (hK : CsAv K cs) (hg : w.grownBy w1 K) : EvLW w1 B cs es := ⟨h.1, fun i e hi => by
  obtain ⟨F, nf, cf, D, nd, cd, hx, h1, h2, h3, h4, h5, h6⟩ := h.2 i e hi
  have hm : ∀ u ∈ ((cs.drop (i * 6)).take 6), u ∈ cs := fun u hu => List.mem_of_mem_drop (List.mem_of_mem_take hu)
  rw [hx] at hm
  exact ⟨F, nf, cf, D, nd, cd, hx, h1, h2, h3.grown hg (fun hp a ha => hK (.slice F nf cf) (hm _ (by simp)) a nf cf (by rw [ha]) hp), h4, h5.grown hg (fun hp a ha => hK (.slice D nd cd) (hm _ (by simp)) a nd cd (by rw [ha]) hp), h6⟩⟩
/-- A slice of events, its row apart from the events' bytes. -/
def EvSA (w : World) (B : Nat) (v : Value) (es : List Ev) : Prop :=
  ∃ cs, w.ownsRow B 77 6 v es.length cs ∧ EvLW w B cs es ∧ CsAv v.ownBlock cs
theorem EvSA.sw {w : World} {B : Nat} {v : Value} {es : List Ev} (h : EvSA w B v es) : EvSW w B v es := let ⟨cs, h1, h2, _⟩ := h; ⟨cs, h1, h2⟩
theorem EvSA.nil (w : World) (B : Nat) : EvSA w B (.slice none 0 0) [] := ⟨[], own_nil _ _ _ _, EvLW.nil _ _, fun u hu => by simp at hu⟩
theorem EvSA.below {w w1 : World} {B : Nat} {v : Value} {es : List Ev} (h : EvSA w B v es) (hb : Below w.heap.size w w1) : EvSA w1 B v es := let ⟨cs, h1, h2, h3⟩ := h; ⟨cs, own_below h1 hb, h2.below hb, h3⟩
theorem EvSA.ch {w w1 : World} {B : Nat} {v : Value} {es : List Ev} {g : Nat} {K : Option Nat} (h : EvSA w B v es) (hg : g < B) (hK : ∀ k, K = some k → k < B) (hc : Ch g K w w1) : EvSA w1 B v es := by
  obtain ⟨cs, h1, h2, h3⟩ := h
  exact ⟨cs, own_ch h1 (fun k hk => ⟨by have := (h1.lt k hk).1; omega, fun e => by have := (h1.lt k hk).1; have := hK k e.symm; omega⟩) hc, h2.ch hg hK hc, h3⟩
theorem own_raise {w : World} {b b' : Nat} {e : TypeId} {size n : Nat} {v : Value} {xs : List Value} (h : w.ownsRow b e size v n xs) (hb : ∀ k, v.ownBlock = some k → b' ≤ k) : w.ownsRow b' e size v n xs := by
  refine ⟨h.1, ?_⟩
  rcases h.2 with hn | ⟨g, cap, cur, rfl, h1, h2⟩
  · exact .inl hn
  · exact .inr ⟨g, cap, cur, rfl, hb g rfl, h2⟩
theorem append_ev2 {P : Program} {w : World} {ops : Array Oper} {rest : List Oper} {o : Oper} {a : Act} {Q : Exit → Act → World → Prop} (hgd : o.guard = none) (s x : Operand) (t : TypeId)
    (ho : o.op = .call { callee := .builtin .append, args := #[s, x], argTypes := #[t, t] })
    (e : TypeId) (i : TypeInfo) (z : Value) (bytes : Nat) (ht : P.underlying t = some (.slice e)) (hi : P.info? e = some i) (hz : i.zero = some z)
    (hsize : i.size = 6) (hby : i.bytes = bytes) (hzs : z.cells.size = 6) (B : Nat) (hB : B ≤ w.heap.size)
    (v : Value) (n : Nat) (xs : List Value) (hs : a.eval s = v) (hown : w.ownsRow B e 6 v n xs)
    (vx : Value) (m : Nat) (cs : List Value) (hx : a.eval x = vx) (hp : EvP w vx m cs) (h63 : n + m ≤ maxLen) (hbytes : (n + m) * bytes ≤ 140737488355328)
    (h : ∀ v' w', w'.ownsRow B e 6 v' (n + m) (xs ++ cs) → w.grownBy w' v.ownBlock → Nx w v.ownBlock v'.ownBlock → wpList P ops Q rest (a.put o.dst v') w') : wpList P ops Q (o :: rest) a w := by
  obtain ⟨h1, h2, h3⟩ := hp
  rcases h3 with ⟨rfl, rfl⟩ | ⟨g, c, rfl, hc, hg, hq⟩
  · obtain rfl : cs = [] := List.eq_nil_of_length_eq_zero (by omega)
    refine wpList_append_own_none hgd s x t ho B e i 6 ht hi v n xs hs hown hx ?_
    exact h v w (by rw [List.append_nil]; exact hown) ⟨rfl, rfl, rfl, Nat.le_refl _, fun _ _ _ => rfl⟩ (Nx.refl _ _)
  · obtain ⟨v', w', hrun, r1, r2, r3⟩ := run_append_own2 (P := P) w t o.type e i z 6 bytes ht hi hz hsize hby hzs (by omega) v n xs (own_mono hown (Nat.zero_le _)) ⟨g, 0, none⟩ m c cs h1 (fun j u hu => by rw [add_plain', Nat.zero_add]; exact hq j u hu) h2 h63 hbytes
    refine Lib.wpList_append_run w hgd s x t t ho _ _ hs hx v' w' hrun (h v' w' (own_raise r1 (fun k hk => ?_)) r2 r3)
    rcases r3 with h | h | ⟨k', h, hk'⟩
    · rw [h] at hk; cases hk
    · rw [h] at hk; exact (hown.lt k hk).1
    · rw [h] at hk; injection hk with hk; omega
/-- Events are appended. -/
theorem EvSA.append {w w1 w2 : World} {B : Nat} {v v' : Value} {es fs : List Ev} {cs ds : List Value} (ho : w1.ownsRow B 77 6 v es.length cs) (hl : EvLW w1 B cs es) (hc : CsAv v.ownBlock cs) (hd : EvLW w1 w.heap.size ds fs) (hw : ∀ k, v.ownBlock = some k → k < w.heap.size) (hB : B ≤ w.heap.size)
    (ho2 : w2.ownsRow B 77 6 v' (es.length + fs.length) (cs ++ ds)) (hg : w1.grownBy w2 v.ownBlock) (hn : Nx w1 v.ownBlock v'.ownBlock) : EvSA w2 B v' (es ++ fs) := by
  have hcd : CsAv v.ownBlock ds := fun u hu a n c e hp h => by
    have := (hd.data u hu a n c e hp).1
    have := hw _ h.symm
    omega
  refine ⟨cs ++ ds, by rw [List.length_append]; exact ho2, (hl.grown hc hg).append ((hd.grown hcd hg).mono hB), fun u hu a n c e hp h => ?_⟩
  rcases hn with h' | h' | ⟨k, h', hk⟩
  · rw [h'] at h; cases h
  · rw [h'] at h
    rcases List.mem_append.1 hu with hu | hu
    · exact hc u hu a n c e hp h
    · exact hcd u hu a n c e hp h
  · rw [h'] at h
    injection h with h
    rcases List.mem_append.1 hu with hu | hu
    · have := (hl.data u hu a n c e hp).2; omega
    · have := (hd.data u hu a n c e hp).2; omega

/-- What the reference's Feed hands back. -/
def RFeedP (a b c d e f : Bool) (A0 : Option Addr) (m0 : Nat) (s : St) (es : List Ev) (w : World) (r : Ending) (w' : World) : Prop :=
  ∃ A m cm v, r = .returned (.tuple #[.agg #[.bool a, .bool b, .bool c, .bool d, .bool e, .bool f, .slice A m cm, .int .i64 s.len, .bool s.closed, .int .i64 s.frames], v]) ∧ RdB w' (.slice A m cm) s.kept ∧ (Fs w.heap.size A m ∨ (A = A0 ∧ m = m0)) ∧ EvSW w' w.heap.size v es ∧ Below w.heap.size w w'
def RCell (N : Nat) (a b c d e f : Bool) (A : Option Addr) (m cm : Nat) (s : St) (j : Nat) : Value :=
  match j with
  | 0 => .bool a | 1 => .bool b | 2 => .bool c | 3 => .bool d | 4 => .bool e | 5 => .bool f | 6 => .slice A m cm | 7 => .int .i64 s.len | 8 => .bool s.closed | _ => .int .i64 s.frames
/-- The state of the loop: the block of the framer. -/
structure RLoop (N : Nat) (w0 : World) (A0 : Option Addr) (m0 : Nat) (a b c d e f : Bool) (A : Option Addr) (m cm : Nat) (s : St) (w : World) : Prop where
  lt : N + 1 < w.heap.size
  cs : ∀ j, j < 10 → w.cell? ⟨N, j, none⟩ = some (RCell N a b c d e f A m cm s j)
  fz : ∀ j, w.frozen? ⟨N, j, none⟩ = false
  zs : ∀ j, j < 10 → w.cell? ⟨N + 1, j, none⟩ = some (RCell N false false false false false false none 0 0 ⟨[], 0, false, 0⟩ j)
  zf : ∀ j, w.frozen? ⟨N + 1, j, none⟩ = false
  rd : RdB w (.slice A m cm) s.kept
  fs : Fs (N + 2) A m ∨ (A = A0 ∧ m = m0)
  ch : Ch N (some (N + 1)) w0 w

theorem RLoop.start {w : World} {s : St} {a b c d e f : Bool} {A : Option Addr} {m cm : Nat} {ty ty' : TypeId} (hr : RdB w (.slice A m cm) s.kept) :
    RLoop w.heap.size w A m a b c d e f A m cm s ((w.alloc (.cells #[.bool a, .bool b, .bool c, .bool d, .bool e, .bool f, .slice A m cm, .int .i64 s.len, .bool s.closed, .int .i64 s.frames] ty)).alloc (.cells #[.bool false, .bool false, .bool false, .bool false, .bool false, .bool false, .slice none 0 0, .int .i64 0, .bool false, .int .i64 0] ty')) := by
  have hb := below_alloc (below_alloc (Below.refl w.heap.size w) (.cells #[.bool a, .bool b, .bool c, .bool d, .bool e, .bool f, .slice A m cm, .int .i64 s.len, .bool s.closed, .int .i64 s.frames] ty)) (.cells #[.bool false, .bool false, .bool false, .bool false, .bool false, .bool false, .slice none 0 0, .int .i64 0, .bool false, .int .i64 0] ty')
  refine ⟨by simp, fun j hj => ?_, fun j => ?_, fun j hj => ?_, fun j => ?_, hr.below hb, .inr ⟨rfl, rfl⟩, Ch.of hb⟩
  · rw [World.cell?_alloc_past _ _ _ (by simp), World.cell?_alloc_at _ _ _ _ rfl]
    match j, hj with
    | 0, _ => rfl
    | 1, _ => rfl
    | 2, _ => rfl
    | 3, _ => rfl
    | 4, _ => rfl
    | 5, _ => rfl
    | 6, _ => rfl
    | 7, _ => rfl
    | 8, _ => rfl
    | 9, _ => rfl
  · rw [World.frozen?_alloc_past _ _ _ (by simp), World.frozen?_alloc_at _ _ _ _ rfl]
  · rw [World.cell?_alloc_at _ _ _ _ (by simp)]
    match j, hj with
    | 0, _ => rfl
    | 1, _ => rfl
    | 2, _ => rfl
    | 3, _ => rfl
    | 4, _ => rfl
    | 5, _ => rfl
    | 6, _ => rfl
    | 7, _ => rfl
    | 8, _ => rfl
    | 9, _ => rfl
  · rw [World.frozen?_alloc_at _ _ _ _ (by simp)]
theorem RLoop.bel {N : Nat} {w0 : World} {A0 : Option Addr} {m0 : Nat} {a b c d e f : Bool} {A : Option Addr} {m cm : Nat} {s : St} {w : World} (h : RLoop N w0 A0 m0 a b c d e f A m cm s w) (hN : N = w0.heap.size) : Below w0.heap.size w0 w :=
  h.ch.bel (Nat.le_refl _) (by omega) (fun k hk => by injection hk with hk; omega)
/-- The kept bytes lie apart from the framer's blocks. -/
theorem RLoop.av {N : Nat} {w0 : World} {A0 : Option Addr} {m0 c0 : Nat} {xs : List Int} {a b c d e f : Bool} {A : Option Addr} {m cm : Nat} {s : St} {w : World} (h : RLoop N w0 A0 m0 a b c d e f A m cm s w) (hN : N = w0.heap.size) (hr : RdB w0 (.slice A0 m0 c0) xs) : Av N (some (N + 1)) A m := by
  rcases h.fs with h1 | ⟨rfl, rfl⟩
  · exact h1.av (by omega) (fun k hk => by injection hk with hk; omega)
  · intro hp a ha
    obtain ⟨g, o, e, hg⟩ := hr.lt hp
    rw [e] at ha; injection ha with ha; subst ha
    exact ⟨by show g ≠ N; omega, fun e => by injection e with e; simp at e; omega⟩
theorem rfeed_end {w0 : World} {A0 : Option Addr} {m0 c0 : Nat} {xs : List Int} {a b c d e f : Bool} {A : Option Addr} {m cm : Nat} {s : St} {w W : World} {es : List Ev} {v : Value} (h : RLoop w0.heap.size w0 A0 m0 a b c d e f A m cm s w) (hE : EvSW w (w0.heap.size + 2) v es) (hr : RdB w0 (.slice A0 m0 c0) xs) (hc : Ch w0.heap.size (some (w0.heap.size + 1)) w W) :
    RFeedP a b c d e f A0 m0 s es w0 (.returned (.tuple #[.agg #[.bool a, .bool b, .bool c, .bool d, .bool e, .bool f, .slice A m cm, .int .i64 s.len, .bool s.closed, .int .i64 s.frames], v])) W :=
  ⟨A, m, cm, v, rfl, h.rd.ch (h.av rfl hr) hc, h.fs.imp (fun h => h.mono (by omega)) id, (hE.ch (by omega) (fun k hk => by injection hk with hk; omega) hc).mono (by omega), one_bel (h.bel rfl) hc⟩

/-- What every world of the region around the step keeps. -/
def HoS (w1 : World) (N : Nat) (a b c d e f : Bool) (v : Value) (len : Int) (cl : Bool) (fr : Int) (gb ob : Nat) (x : Int) (W : World) : Prop :=
  Below w1.heap.size w1 W ∧ W.cell? ⟨N, 0, none⟩ = some (.bool a) ∧ W.cell? ⟨N, 1, none⟩ = some (.bool b) ∧ W.cell? ⟨N, 2, none⟩ = some (.bool c) ∧ W.cell? ⟨N, 3, none⟩ = some (.bool d) ∧ W.cell? ⟨N, 4, none⟩ = some (.bool e) ∧ W.cell? ⟨N, 5, none⟩ = some (.bool f) ∧ W.cell? ⟨N, 6, none⟩ = some v ∧ W.cell? ⟨N, 7, none⟩ = some (.int .i64 len) ∧ W.cell? ⟨N, 8, none⟩ = some (.bool cl) ∧ W.cell? ⟨N, 9, none⟩ = some (.int .i64 fr) ∧ W.cell? ⟨gb, ob, none⟩ = some (.int .u8 x)
section
variable {w1 W W' : World} {N : Nat} {a b c d e f : Bool} {v : Value} {len : Int} {cl : Bool} {fr : Int} {gb ob : Nat} {x : Int}
theorem HoS.bel (h : HoS w1 N a b c d e f v len cl fr gb ob x W) : Below w1.heap.size w1 W := h.1
theorem HoS.step (hg : N < w1.heap.size ∧ gb < w1.heap.size) (h : HoS w1 N a b c d e f v len cl fr gb ob x W) (hb : Below w1.heap.size w1 W') : HoS w1 N a b c d e f v len cl fr gb ob x W' := by
  obtain ⟨h0, h1, h2, h3, h4, h5, h6, h7, h8, h9, h10, h11⟩ := h
  have q : ∀ j u, W.cell? ⟨N, j, none⟩ = some u → W'.cell? ⟨N, j, none⟩ = some u := fun j u hu => by rw [hb.cell hg.1, ← h0.cell hg.1]; exact hu
  exact ⟨hb, q _ _ h1, q _ _ h2, q _ _ h3, q _ _ h4, q _ _ h5, q _ _ h6, q _ _ h7, q _ _ h8, q _ _ h9, q _ _ h10, by rw [hb.cell hg.2, ← h0.cell hg.2]; exact h11⟩
theorem HoS.drew (h : HoS w1 N a b c d e f v len cl fr gb ob x W) : HoS w1 N a b c d e f v len cl fr gb ob x W.drew := ⟨h.1.drew, h.2⟩
theorem HoS.alloc {o : Obj} (hg : N < w1.heap.size ∧ gb < w1.heap.size) (h : HoS w1 N a b c d e f v len cl fr gb ob x W) : HoS w1 N a b c d e f v len cl fr gb ob x (W.alloc o) := h.step hg (below_alloc h.1 o)
theorem HoS.next (hg : N < w1.heap.size ∧ gb < w1.heap.size) (hb : Below W.heap.size W W') (h : HoS w1 N a b c d e f v len cl fr gb ob x W) : HoS w1 N a b c d e f v len cl fr gb ob x W' := h.step hg (below_then' h.1 hb)
theorem HoS.set' {p : Addr} {u : Value} (hp : w1.heap.size ≤ p.block) (hg : N < w1.heap.size ∧ gb < w1.heap.size) (h : HoS w1 N a b c d e f v len cl fr gb ob x W) : HoS w1 N a b c d e f v len cl fr gb ob x (W.setCell p u) := h.step hg (h.1.setCell hp u)
end
/-- Behind the step: the new state lies in the block p. -/
def RMid (w1 : World) (a b c d e f : Bool) (s : St) (es : List Ev) (s8 s9 : Value) (wx : World) : Prop :=
  ∃ p A m cm, s8 = .pointer (some ⟨p, 0, none⟩) ∧ w1.heap.size ≤ p ∧ p < wx.heap.size ∧ Below w1.heap.size w1 wx ∧ (∀ j, j < 10 → wx.cell? ⟨p, j, none⟩ = some (RCell 0 a b c d e f A m cm s j)) ∧ RdB wx (.slice A m cm) s.kept ∧ Fs w1.heap.size A m ∧ EvSW wx w1.heap.size s9 es

theorem RMid.mk' {w1 wx : World} {a b c d e f : Bool} {s : St} {es : List Ev} {v : Value} {p : Nat} {A : Option Addr} {m cm : Nat} (hS : Below w1.heap.size w1 wx) (hp : w1.heap.size ≤ p) (cB : BlkIs wx p [.bool a, .bool b, .bool c, .bool d, .bool e, .bool f, .slice A m cm, .int .i64 s.len, .bool s.closed, .int .i64 s.frames]) (hr : RdB wx (.slice A m cm) s.kept) (hf : Fs w1.heap.size A m) (he : EvSW wx w1.heap.size v es) :
    RMid w1 a b c d e f s es (.pointer (some ⟨p, 0, none⟩)) v wx :=
  ⟨p, A, m, cm, rfl, hp, cB.1, hS, fun j hj => by
    match j, hj with
    | 0, _ => exact cB.2 0 _ rfl
    | 1, _ => exact cB.2 1 _ rfl
    | 2, _ => exact cB.2 2 _ rfl
    | 3, _ => exact cB.2 3 _ rfl
    | 4, _ => exact cB.2 4 _ rfl
    | 5, _ => exact cB.2 5 _ rfl
    | 6, _ => exact cB.2 6 _ rfl
    | 7, _ => exact cB.2 7 _ rfl
    | 8, _ => exact cB.2 8 _ rfl
    | 9, _ => exact cB.2 9 _ rfl, hr, hf, he⟩
theorem RMid.f1 {w1 w2 : World} {a b c d e f : Bool} {s : St} {es : List Ev} {v : Value} {A : Option Addr} {m cm : Nat} {ty : TypeId} (hx : RdB w2 (.slice A m cm) s.kept ∧ Fs w1.drew.heap.size A m ∧ EvSW w2 w1.drew.heap.size v es ∧ Below w1.drew.heap.size w1.drew w2) :
    RMid w1 a b c d e f s es (.pointer (some ⟨w2.heap.size, 0, none⟩)) v (w2.alloc (.cells #[.bool a, .bool b, .bool c, .bool d, .bool e, .bool f, .slice A m cm, .int .i64 s.len, .bool s.closed, .int .i64 s.frames] ty)) := by
  obtain ⟨h1, h2, h3, h4⟩ := hx
  have hb : Below w1.heap.size w1 w2 := ⟨h4.os, h4.tape, h4.output, h4.size, h4.block⟩
  have hba := below_alloc (Below.refl w2.heap.size w2) (.cells #[.bool a, .bool b, .bool c, .bool d, .bool e, .bool f, .slice A m cm, .int .i64 s.len, .bool s.closed, .int .i64 s.frames] ty)
  exact RMid.mk' (below_alloc hb _) h4.size (BlkIs.new _ _ _) (h1.below hba) h2 (h3.below hba)
theorem RMid.f2 {w1 w2 : World} {a b c d e f : Bool} {s : St} {es : List Ev} {v : Value} {A : Option Addr} {m cm : Nat} {ty : TypeId} {z0 z1 z2 z3 z4 z5 z6 z7 z8 z9 : Value} {W : World} (hW : W = (w1.alloc (.cells #[z0, z1, z2, z3, z4, z5, z6, z7, z8, z9] ty)).drew) (hx : RdB w2 (.slice A m cm) s.kept ∧ Fs W.heap.size A m ∧ EvSW w2 W.heap.size v es ∧ Below W.heap.size W w2) :
    RMid w1 a b c d e f s es (.pointer (some ⟨w1.heap.size, 0, none⟩)) v ((((((((((w2.setCell ⟨w1.heap.size, 0, none⟩ (.bool a)).setCell ⟨w1.heap.size, 1, none⟩ (.bool b)).setCell ⟨w1.heap.size, 2, none⟩ (.bool c)).setCell ⟨w1.heap.size, 3, none⟩ (.bool d)).setCell ⟨w1.heap.size, 4, none⟩ (.bool e)).setCell ⟨w1.heap.size, 5, none⟩ (.bool f)).setCell ⟨w1.heap.size, 6, none⟩ (.slice A m cm)).setCell ⟨w1.heap.size, 7, none⟩ (.int .i64 s.len)).setCell ⟨w1.heap.size, 8, none⟩ (.bool s.closed)).setCell ⟨w1.heap.size, 9, none⟩ (.int .i64 s.frames)) := by
  obtain ⟨h1, h2, h3, h4⟩ := hx
  have hz : W.heap.size = w1.heap.size + 1 := by rw [hW]; simp
  have hbW : Below w1.heap.size w1 W := by rw [hW]; exact (below_alloc (Below.refl _ _) _).drew
  have hb : Below w1.heap.size w1 w2 := hbW.trans (h4.mono hbW.size)
  have hc : Ch w1.heap.size none w2 ((((((((((w2.setCell ⟨w1.heap.size, 0, none⟩ (.bool a)).setCell ⟨w1.heap.size, 1, none⟩ (.bool b)).setCell ⟨w1.heap.size, 2, none⟩ (.bool c)).setCell ⟨w1.heap.size, 3, none⟩ (.bool d)).setCell ⟨w1.heap.size, 4, none⟩ (.bool e)).setCell ⟨w1.heap.size, 5, none⟩ (.bool f)).setCell ⟨w1.heap.size, 6, none⟩ (.slice A m cm)).setCell ⟨w1.heap.size, 7, none⟩ (.int .i64 s.len)).setCell ⟨w1.heap.size, 8, none⟩ (.bool s.closed)).setCell ⟨w1.heap.size, 9, none⟩ (.int .i64 s.frames)) := ((((((((((Ch.refl _ _ _).set _ _).set _ _).set _ _).set _ _).set _ _).set _ _).set _ _).set _ _).set _ _).set _ _
  have hB : BlkIs w2 w1.heap.size [z0, z1, z2, z3, z4, z5, z6, z7, z8, z9] := BlkIs.inB h4 (p := w1.heap.size) (cs := #[z0, z1, z2, z3, z4, z5, z6, z7, z8, z9]) (ty := ty) (by rw [hW]; exact heap_at1 _ _)
  refine RMid.mk' (hb.trans (hc.bel hb.size (Nat.le_refl _) (fun k hk => by cases hk))) (Nat.le_refl _) ?_ (h1.ch (h2.av (by omega) (fun k hk => by cases hk)) hc) (h2.mono (by omega)) ((h3.ch (by omega) (fun k hk => by cases hk) hc).mono (by omega))
  exact ((((((((((hB.setIn 0 (.bool a)).setIn 1 (.bool b)).setIn 2 (.bool c)).setIn 3 (.bool d)).setIn 4 (.bool e)).setIn 5 (.bool f)).setIn 6 (.slice A m cm)).setIn 7 (.int .i64 s.len)).setIn 8 (.bool s.closed)).setIn 9 (.int .i64 s.frames))
/-- The new state is stored into the framer's block. -/
def RSet (N : Nat) (a b c d e f : Bool) (A : Option Addr) (m cm : Nat) (s : St) (w : World) : World :=
  (((((((((w.setCell ⟨N, 0, none⟩ (.bool a)).setCell ⟨N, 1, none⟩ (.bool b)).setCell ⟨N, 2, none⟩ (.bool c)).setCell ⟨N, 3, none⟩ (.bool d)).setCell ⟨N, 4, none⟩ (.bool e)).setCell ⟨N, 5, none⟩ (.bool f)).setCell ⟨N, 6, none⟩ (.slice A m cm)).setCell ⟨N, 7, none⟩ (.int .i64 s.len)).setCell ⟨N, 8, none⟩ (.bool s.closed)).setCell ⟨N, 9, none⟩ (.int .i64 s.frames)
theorem RSet.ch (N : Nat) (K : Option Nat) (a b c d e f : Bool) (A : Option Addr) (m cm : Nat) (s : St) (w : World) : Ch N K w (RSet N a b c d e f A m cm s w) := by
  unfold RSet
  exact ((((((((((Ch.refl _ _ _).set _ _).set _ _).set _ _).set _ _).set _ _).set _ _).set _ _).set _ _).set _ _).set _ _
theorem RLoop.step {N : Nat} {w0 : World} {A0 : Option Addr} {m0 : Nat} {a b c d e f : Bool} {A : Option Addr} {m cm : Nat} {s s1 : St} {w wc w' : World} {A1 : Option Addr} {m1 c1 : Nat} {K : Option Nat} (h : RLoop N w0 A0 m0 a b c d e f A m cm s w) (hN : N = w0.heap.size) (hb : Below w.heap.size w wc) (hr : RdB wc (.slice A1 m1 c1) s1.kept) (hf : Fs w.heap.size A1 m1)
    (hg : (RSet N a b c d e f A1 m1 c1 s1 wc).grownBy w' K) (hK : ∀ k, K = some k → N + 2 ≤ k ∧ k < w.heap.size) : RLoop N w0 A0 m0 a b c d e f A1 m1 c1 s1 w' := by
  have hlt := h.lt
  have hsz := hb.size
  have hc := RSet.ch N (some (N + 1)) a b c d e f A1 m1 c1 s1 wc
  have hgz := hg.size
  have hcz := hc.size
  have hB : BlkIs wc N [.bool a, .bool b, .bool c, .bool d, .bool e, .bool f, .slice A m cm, .int .i64 s.len, .bool s.closed, .int .i64 s.frames] := ⟨by omega, fun j v hj => by
    rw [hb.cell (by show N < w.heap.size; omega)]
    match j with
    | 0 => injection hj with hj; rw [← hj]; exact h.cs 0 (by omega)
    | 1 => injection hj with hj; rw [← hj]; exact h.cs 1 (by omega)
    | 2 => injection hj with hj; rw [← hj]; exact h.cs 2 (by omega)
    | 3 => injection hj with hj; rw [← hj]; exact h.cs 3 (by omega)
    | 4 => injection hj with hj; rw [← hj]; exact h.cs 4 (by omega)
    | 5 => injection hj with hj; rw [← hj]; exact h.cs 5 (by omega)
    | 6 => injection hj with hj; rw [← hj]; exact h.cs 6 (by omega)
    | 7 => injection hj with hj; rw [← hj]; exact h.cs 7 (by omega)
    | 8 => injection hj with hj; rw [← hj]; exact h.cs 8 (by omega)
    | 9 => injection hj with hj; rw [← hj]; exact h.cs 9 (by omega)
    | j + 10 => simp at hj⟩
  have hB2 : BlkIs (RSet N a b c d e f A1 m1 c1 s1 wc) N [.bool a, .bool b, .bool c, .bool d, .bool e, .bool f, .slice A1 m1 c1, .int .i64 s1.len, .bool s1.closed, .int .i64 s1.frames] := ((((((((((hB.setIn 0 (.bool a)).setIn 1 (.bool b)).setIn 2 (.bool c)).setIn 3 (.bool d)).setIn 4 (.bool e)).setIn 5 (.bool f)).setIn 6 (.slice A1 m1 c1)).setIn 7 (.int .i64 s1.len)).setIn 8 (.bool s1.closed)).setIn 9 (.int .i64 s1.frames))
  have hcN := (RSet.ch N none a b c d e f A1 m1 c1 s1 wc).block (N + 1) (by omega) (by omega) nofun
  have hfz : ∀ j, (RSet N a b c d e f A1 m1 c1 s1 wc).frozen? ⟨N, j, none⟩ = false := fun j => by
    unfold RSet
    iterate 10 rw [World.frozen?_setCell]
    rw [hb.frozen (by show N < w.heap.size; omega)]
    exact h.fz j
  obtain ⟨R, hR⟩ : ∃ R, R = RSet N a b c d e f A1 m1 c1 s1 wc := ⟨_, rfl⟩
  rw [← hR] at hg hc hgz hcz hB2 hcN hfz
  clear hB hR
  have gN : ∀ j, j < N + 2 → w'.heap[j]? = R.heap[j]? := fun j hj => hg.block j (by omega) (fun e => by have := hK j e.symm; omega)
  have gN1 : w'.heap[N + 1]? = w.heap[N + 1]? := (gN _ (by omega)).trans (hcN.trans (hb.block _ hlt))
  have gN0 := gN N (by omega)
  refine ⟨by omega, fun j hj => ?_, fun j => ?_, fun j hj => ?_, fun j => ?_, ?_, .inl (hf.mono (by omega)), ?_⟩
  · rw [World.cell?_of_block (w := R) (a := ⟨N, j, none⟩) gN0]
    match j, hj with
    | 0, _ => exact hB2.2 0 _ rfl
    | 1, _ => exact hB2.2 1 _ rfl
    | 2, _ => exact hB2.2 2 _ rfl
    | 3, _ => exact hB2.2 3 _ rfl
    | 4, _ => exact hB2.2 4 _ rfl
    | 5, _ => exact hB2.2 5 _ rfl
    | 6, _ => exact hB2.2 6 _ rfl
    | 7, _ => exact hB2.2 7 _ rfl
    | 8, _ => exact hB2.2 8 _ rfl
    | 9, _ => exact hB2.2 9 _ rfl
  · rw [World.frozen?_of_block (w := R) (a := ⟨N, j, none⟩) gN0]; exact hfz j
  · rw [World.cell?_of_block (w := w) (a := ⟨N + 1, j, none⟩) gN1]; exact h.zs j hj
  · rw [World.frozen?_of_block (w := w) (a := ⟨N + 1, j, none⟩) gN1]; exact h.zf j
  · have hav : Av N (some (N + 1)) A1 m1 := hf.av (by omega) (fun k hk => by injection hk with hk; omega)
    refine (hr.ch hav hc).grown hg (fun hp a ha e => ?_)
    have := hf hp a ha
    have := (hK _ e.symm).2
    omega
  · subst hN
    have h1 : Ch w0.heap.size (some (w0.heap.size + 1)) w0 R := (h.ch.below hb).trans hc (Nx.refl _ _)
    exact ⟨hg.os.trans h1.os, hg.tape.trans h1.tape, hg.output.trans h1.output, Nat.le_trans h1.size hg.size, fun k hk hg' hK' => by rw [gN k (by omega)]; exact h1.block k hk hg' hK'⟩

set_option maxRecDepth 100000 in
set_option maxHeartbeats 4000000 in
theorem rfeed_any {w : World} {s : St} {a b c d e f : Bool} (A : Option Addr) (m cm : Nat) (hr : RdB w (.slice A m cm) s.kept) (B : Option Addr) (n cn : Nat) (bs : List Int) (hrb : RdB w (.slice B n cn) bs) (hm : s.kept.length + bs.length ≤ 100000) (hfr : 0 ≤ s.frames ∧ s.frames + bs.length ≤ 1000000000) :
    Calls Try.prog 31 #[.agg #[.bool a, .bool b, .bool c, .bool d, .bool e, .bool f, .slice A m cm, .int .i64 s.len, .bool s.closed, .int .i64 s.frames], .slice B n cn] w (RFeedP a b c d e f A m (feed b s bs).1 (feed b s bs).2 w) := by
  have HR := Lib.hid hr
  have HRB := Lib.hid hrb
  have HM := Lib.hid hm
  have HFR := Lib.hid hfr
  have hn63 : (n : Int) ≤ 9223372036854775807 := by have := hrb.len; omega
  have HBL := Lib.hid hrb.len.1
  clear hr hrb hm hfr
  go_enter Try.func31, Try.ntmps31
  go_wp2_with fail
  go_loopw [6, 7] (fun o i wr => ∃ (j : Nat) (A' : Option Addr) (m' cm' : Nat) (s' : St) (es : List Ev), j ≤ n ∧ i = .int .i64 j ∧ RLoop w.heap.size w A m a b c d e f A' m' cm' s' wr ∧ EvSA wr (w.heap.size + 2) o es ∧ feed b s bs = ((feed b s' (bs.drop j)).1, es ++ (feed b s' (bs.drop j)).2) ∧ s'.kept.length ≤ s.kept.length + j ∧ es.length ≤ j ∧ s.frames ≤ s'.frames ∧ s'.frames ≤ s.frames + j) (fun _ i _ => n - (intOf i).toNat)
  case atStart =>
    exact ⟨0, A, m, cm, s, [], by omega, rfl, RLoop.start HR.out, EvSA.nil _ _, by simp, by omega, by simp, by omega, by omega⟩
  case round =>
    obtain ⟨j, A', m', cm', s', es, hj, rfl, hL, hE, hF, hk1, hk2, hk3, hk4⟩ := hrel
    obtain ⟨Ao, co, rfl⟩ := hE.sw.form
    have q : ∀ j, j < 10 → wr.cell? ⟨w.heap.size, j, none⟩ = _ := hL.cs
    have q0 := q 0 (by omega)
    have q1 := q 1 (by omega)
    have q2 := q 2 (by omega)
    have q3 := q 3 (by omega)
    have q4 := q 4 (by omega)
    have q5 := q 5 (by omega)
    have q6 := q 6 (by omega)
    have q7 := q 7 (by omega)
    have q8 := q 8 (by omega)
    have q9 := q 9 (by omega)
    simp only [RCell] at q0 q1 q2 q3 q4 q5 q6 q7 q8 q9
    have qf := hL.fz
    have z : ∀ j, j < 10 → wr.cell? ⟨w.heap.size + 1, j, none⟩ = _ := hL.zs
    have z0 := z 0 (by omega)
    have z1 := z 1 (by omega)
    have z2 := z 2 (by omega)
    have z3 := z 3 (by omega)
    have z4 := z 4 (by omega)
    have z5 := z 5 (by omega)
    have z6 := z 6 (by omega)
    have z7 := z 7 (by omega)
    have z8 := z 8 (by omega)
    have z9 := z 9 (by omega)
    simp only [RCell] at z0 z1 z2 z3 z4 z5 z6 z7 z8 z9
    have zf := hL.zf
    have HL := Lib.hid hL
    have HE := Lib.hid hE
    have HF := Lib.hid hF
    have HK := Lib.hid (And.intro hk1 (And.intro hk2 (And.intro hk3 hk4)))
    clear hL hE hF hk1 hk2 hk3 hk4 q z
    by_cases hlt : j < n
    · have jn : (j : Int) < n := by omega
      by_cases hc : s'.closed = true
      · rw [hc] at q8
        have HC := Lib.hid hc
        clear hc
        go_wp2_with fail
        refine bodyPost_ret (v := .tuple #[.agg #[.bool a, .bool b, .bool c, .bool d, .bool e, .bool f, .slice A' m' cm', .int .i64 s'.len, .bool true, .int .i64 s'.frames], .slice Ao es.length co]) (by simp [results, Try.results31, go_sem, *]) rfl ?_
        have e1 : feed b s bs = (s', es) := by
          rw [HF.out, feed_closed HC.out]; simp
        rw [e1, ← HC.out]
        exact rfeed_end HL.out HE.out.sw HR.out (by (repeat (first | with_reducible exact Ch.refl _ _ _ | with_reducible refine Ch.drew ?_ | with_reducible refine Ch.set ?_ _ _ | with_reducible refine Ch.setK ?_ _ _ | with_reducible refine Ch.alloc ?_ _)))
      · have hc' : s'.closed = false := by simpa using hc
        rw [hc'] at q8
        have HC := Lib.hid hc'
        clear hc hc'
        obtain ⟨gb, ob, eB, hgb, hcb⟩ : ∃ g o, B = some ⟨g, o, none⟩ ∧ g < w.heap.size ∧ ∀ j, j < n → w.cell? ⟨g, o + j, none⟩ = some (.int .u8 (bs.getD j 0)) := by
          obtain ⟨h1, h2, A', c', e, h3, h4, h5⟩ := HRB.out
          injection e with e1 e2 e3
          subst e1
          obtain ⟨g, o, e, hg, hc⟩ := h5 (by omega)
          exact ⟨g, o, e, hg, fun j hj => hc j (by omega)⟩
        subst eB
        have hx := HRB.out.get (j := j) (by have := HBL.out; omega)
        obtain ⟨x, hxe⟩ : ∃ x, x = bs.getD j 0 := ⟨_, rfl⟩
        have cb : wr.cell? ⟨gb, ob + j, none⟩ = some (.int .u8 x) := by
          rw [HL.out.ch.cell (by exact hgb) (by show gb ≠ w.heap.size; omega) (by intro e; injection e with e; simp at e; omega), hcb j hlt, hxe]
        rw [← hxe] at hx
        have HX := Lib.hid hx
        have HXE := Lib.hid hxe
        have HGB := Lib.hid hgb
        clear hcb hx hxe hgb
        have hw1 : HoS wr w.heap.size a b c d e f (.slice A' m' cm') s'.len false s'.frames gb (ob + j) x wr := ⟨Below.refl _ _, q0, q1, q2, q3, q4, q5, q6, q7, q8, q9, cb⟩
        have HS0 := Lib.hid hw1
        have HGL := Lib.hid (show w.heap.size < wr.heap.size ∧ gb < wr.heap.size from by have := HL.out.lt; have := HGB.out; omega)
        obtain ⟨OS, hOS⟩ : ∃ OS : St × List Ev, OS = one b s' x := ⟨_, rfl⟩
        have hPC := fun (W : World) (hW : Below wr.heap.size wr W) => one_ref (w := W) (s := s') (a := a) (b := b) (c := c) (d := d) (e := e) (f := f) A' m' cm' (HL.out.rd.below hW) (by have := HL.out.rd.len.1; have := HK.out.1; have := HM.out; have := HBL.out; omega) x HX.out (by have := HK.out.2.2; have := HFR.out; have := HBL.out; omega)
        rw [← hOS, HC.out] at hPC
        have HPC := Lib.hid hPC
        have HOS := Lib.hid hOS
        clear hw1 hPC hOS
        go_upto_region 5 with fail
        go_cut [8, 9] (fun s8 s9 wx => RMid wr a b c d e f OS.1 OS.2 s8 s9 wx)
        case first =>
          clear q0 q1 q2 q3 q4 q5 q6 q7 q8 q9 cb z0 z1 z2 z3 z4 z5 z6 z7 z8 z9 zf qf
          go_region_held3 (fun w' => Below wr.heap.size wr w' ∧ w'.cell? ⟨w.heap.size, 0, none⟩ = some (.bool a) ∧ w'.cell? ⟨w.heap.size, 1, none⟩ = some (.bool b) ∧ w'.cell? ⟨w.heap.size, 2, none⟩ = some (.bool c) ∧ w'.cell? ⟨w.heap.size, 3, none⟩ = some (.bool d) ∧ w'.cell? ⟨w.heap.size, 4, none⟩ = some (.bool e) ∧ w'.cell? ⟨w.heap.size, 5, none⟩ = some (.bool f) ∧ w'.cell? ⟨w.heap.size, 6, none⟩ = some (.slice A' m' cm') ∧ w'.cell? ⟨w.heap.size, 7, none⟩ = some (.int .i64 s'.len) ∧ w'.cell? ⟨w.heap.size, 8, none⟩ = some (.bool false) ∧ w'.cell? ⟨w.heap.size, 9, none⟩ = some (.int .i64 s'.frames) ∧ w'.cell? ⟨gb, ob + j, none⟩ = some (.int .u8 x))
            ((show HoS wr w.heap.size a b c d e f (.slice A' m' cm') s'.len false s'.frames gb (ob + j) x _; repeat (first | with_reducible exact HS0.out | with_reducible refine HoS.drew ?_ | with_reducible refine HoS.alloc HGL.out ?_ | ((with_reducible refine HoS.set' ?_ HGL.out ?_); (focus ((try dsimp only); omega))) | with_reducible refine HoS.next HGL.out hb ?_)))
            (first | (go_at_call 57; refine (HPC.out _ ?_).mono ?_; (focus (refine HoS.bel (N := w.heap.size) (a := a) (b := b) (c := c) (d := d) (e := e) (f := f) (v := .slice A' m' cm') (len := s'.len) (cl := false) (fr := s'.frames) (gb := gb) (ob := ob + j) (x := x) ?_; assumption)); rintro r w2 ⟨A2, m2, cm2, v2, rfl, hx2⟩; have HX2 := Lib.hid hx2; have hb := hx2.2.2.2; clear hx2; (first | ((with_reducible have qa := bel_in1 hb); have qa0 := (qa.1 0 _ rfl).1; have qa1 := (qa.1 1 _ rfl).1; have qa2 := (qa.1 2 _ rfl).1; have qa3 := (qa.1 3 _ rfl).1; have qa4 := (qa.1 4 _ rfl).1; have qa5 := (qa.1 5 _ rfl).1; have qa6 := (qa.1 6 _ rfl).1; have qa7 := (qa.1 7 _ rfl).1; have qa8 := (qa.1 8 _ rfl).1; have qa9 := (qa.1 9 _ rfl).1; have qaf := qa.2.1; clear qa; (with_reducible have hz2 := bel_z1 hb); have hz3 := hz2.1; have hz4 := hz2.2; clear hz2) | skip)))
          all_goals go_wp2_with fail
          all_goals go_meet
          all_goals first
            | with_reducible exact RMid.f1 HX2.out
            | with_reducible exact RMid.f2 rfl HX2.out
            | trace_state
        case rest =>
          obtain ⟨p, A1, m1, c1, rfl, hp1, hp2, hbx, hcp, hr1, hf1, he1⟩ := hcut
          obtain ⟨O1, oc, rfl⟩ := he1.form
          have k0 := hcp 0 (by omega)
          have k1 := hcp 1 (by omega)
          have k2 := hcp 2 (by omega)
          have k3 := hcp 3 (by omega)
          have k4 := hcp 4 (by omega)
          have k5 := hcp 5 (by omega)
          have k6 := hcp 6 (by omega)
          have k7 := hcp 7 (by omega)
          have k8 := hcp 8 (by omega)
          have k9 := hcp 9 (by omega)
          simp only [RCell] at k0 k1 k2 k3 k4 k5 k6 k7 k8 k9
          have q : ∀ j, j < 10 → wc.cell? ⟨w.heap.size, j, none⟩ = _ := fun j hj => (hbx.cell HGL.out.1).trans (HL.out.cs j hj)
          clear q0 q1 q2 q3 q4 q5 q6 q7 q8 q9 cb z0 z1 z2 z3 z4 z5 z6 z7 z8 z9 zf
          have q0 := q 0 (by omega)
          have q1 := q 1 (by omega)
          have q2 := q 2 (by omega)
          have q3 := q 3 (by omega)
          have q4 := q 4 (by omega)
          have q5 := q 5 (by omega)
          have q6 := q 6 (by omega)
          have q7 := q 7 (by omega)
          have q8 := q 8 (by omega)
          have q9 := q 9 (by omega)
          simp only [RCell] at q0 q1 q2 q3 q4 q5 q6 q7 q8 q9
          have qf : ∀ j, wc.frozen? ⟨w.heap.size, j, none⟩ = false := fun j => (hbx.frozen HGL.out.1).trans (HL.out.fz j)
          have HP := Lib.hid (And.intro hp1 hp2)
          have HBX := Lib.hid hbx
          have HR1 := Lib.hid hr1
          have HF1 := Lib.hid hf1
          have HRS := Lib.hid (RSet.ch w.heap.size none a b c d e f A1 m1 c1 OS.1 wc)
          have hsz : w.heap.size + 2 ≤ wr.heap.size := by have := HL.out.lt; omega
          have HSZ := Lib.hid hsz
          obtain ⟨ds, ho5, hl5⟩ := he1
          obtain ⟨cs, ho6, hl6, hc6⟩ := HE.out
          have hl7 := hl5.ch (g := w.heap.size) (K := none) (by omega) nofun HRS.out
          have ho7 := own_ch (g := w.heap.size) (K := none) ho5 (fun k hk => ⟨by have := (ho5.lt k hk).1; omega, nofun⟩) HRS.out
          have hp7 : EvP (RSet w.heap.size a b c d e f A1 m1 c1 OS.1 wc) (.slice O1 OS.2.length oc) OS.2.length ds := own_part ho7 hl7.1 hl7.ones
          have hl8 := (hl6.below HBX.out).ch (g := w.heap.size) (K := none) (by omega) nofun HRS.out
          have ho8 := own_ch (g := w.heap.size) (K := none) (own_below ho6 HBX.out) (fun k hk => ⟨by have := (ho6.lt k hk).1; omega, nofun⟩) HRS.out
          have HOW := Lib.hid ho8
          have HLW := Lib.hid hl8
          have HCW := Lib.hid hc6
          have HPD := Lib.hid hp7
          have HLD := Lib.hid hl7
          have HLT := Lib.hid (fun k (hk : (Value.slice Ao es.length co).ownBlock = some k) => And.intro (ho6.lt k hk).1 (ho6.lt k hk).2)
          clear hp1 hp2 hbx hcp hr1 hf1 q hl7 ho7 hp7 hl8 ho8 hl6 ho6 hc6 ho5 hl5 hsz
          have HLE := Lib.hid (one_frames b s' x)
          obtain ⟨iB, hiB, hz0, hz1, hz2⟩ := info_parts Try.infoR
          go_wp2_with (at_builtin; refine stop_here ?_)
          refine Lib.hid ?_
          refine append_ev2 rfl _ _ 57 rfl 77 iB zEv 80 Try.underlying57 hiB hz0 hz1 hz2 rfl (w.heap.size + 2) ?c1 _ es.length cs rfl HOW.out _ OS.2.length ds rfl HPD.out ?c3 ?c4 ?_
          case c1 => have := (HRS.out).size; have := HBX.out.size; have := HSZ.out; show w.heap.size + 2 ≤ (RSet w.heap.size a b c d e f A1 m1 c1 OS.1 wc).heap.size; omega
          case c3 => have := HLE.out.2.2; have := HK.out.2.1; have := HM.out; have := HBL.out; rw [← HOS.out] at *; unfold maxLen; omega
          case c4 => have := HLE.out.2.2; have := HK.out.2.1; have := HM.out; have := HBL.out; rw [← HOS.out] at *; omega
          intro v' w' ho9 hg9 hn9
          have HO9 := Lib.hid ho9
          have HG9 := Lib.hid (show (RSet w.heap.size a b c d e f A1 m1 c1 OS.1 wc).grownBy w' _ from hg9)
          have HN9 := Lib.hid hn9
          clear ho9 hg9 hn9
          go_wp2_with fail
          go_round
          case rel =>
            have hlen := one_len b s' x
            have hfrm := one_frames b s' x
            rw [← HOS.out] at hlen hfrm
            refine ⟨j + 1, A1, m1, c1, OS.1, es ++ OS.2, by omega, by go_num, HL.out.step rfl HBX.out HR1.out HF1.out HG9.out HLT.out, EvSA.append (w := wr) HOW.out HLW.out HCW.out HLD.out (fun k hk => (HLT.out k hk).2) HSZ.out HO9.out HG9.out HN9.out, ?_, ?_, ?_, ?_, ?_⟩
            · have hd : bs.drop j = x :: bs.drop (j + 1) := by
                rw [HXE.out]
                have hjl : j < bs.length := by have := HBL.out; omega
                rw [List.drop_eq_getElem_cons hjl]
                simp [List.getD_eq_getElem?_getD, hjl]
              rw [HF.out, hd, feed_cons (by rw [HC.out]; simp), ← HOS.out]
              simp [List.append_assoc]
            · have := HK.out; omega
            · have := HK.out; rw [List.length_append]; omega
            · have := HK.out; omega
            · have := HK.out; omega
          case measure => simp [intOf]; omega
    · have jn : ¬ (j : Int) < n := by omega
      go_wp2_with fail
      refine bodyPost_ret (v := .tuple #[.agg #[.bool a, .bool b, .bool c, .bool d, .bool e, .bool f, .slice A' m' cm', .int .i64 s'.len, .bool s'.closed, .int .i64 s'.frames], .slice Ao es.length co]) (by simp [results, Try.results31, go_sem, *]) rfl ?_
      have e1 : feed b s bs = (s', es) := by
        rw [HF.out, List.drop_of_length_le (by have := HBL.out; omega)]; simp [feed]
      rw [e1]
      exact rfeed_end HL.out HE.out.sw HR.out (by (repeat (first | with_reducible exact Ch.refl _ _ _ | with_reducible refine Ch.drew ?_ | with_reducible refine Ch.set ?_ _ _ | with_reducible refine Ch.setK ?_ _ _ | with_reducible refine Ch.alloc ?_ _)))

end Go.Proofs.Ytdiiolbkjmhmdaa
