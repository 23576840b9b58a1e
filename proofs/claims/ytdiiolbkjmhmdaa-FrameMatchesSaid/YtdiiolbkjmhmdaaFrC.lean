/- The framer's buffer: fill and drop. -/
import Derived.Test.YtdiiolbkjmhmdaaFrB
import Derived.Deep.RegionLaw
namespace Go.Proofs.Ytdiiolbkjmhmdaa
open Go.RowKit
set_option linter.unusedSimpArgs false
set_option linter.unusedVariables false

theorem step_append_own2 {P : Program} {ops : Array Oper} {o : Oper} {a : Act} {w : World} {K : Act → World → Prop} {Q : Exit → Act → World → Prop} {E : Prop}
    (hg : o.guard = none) (s x : Operand) (t : TypeId) (hop : o.op = Op.call { callee := Callee.builtin Go.Builtin.append, args := #[s, x], argTypes := #[t, t] })
    (e : TypeId) (i : TypeInfo) (z : Value) (size bytes : Nat) (h1 : P.underlying t = some (.slice e)) (h2 : P.info? e = some i) (h3 : i.zero = some z) (h4 : i.size = size) (h5 : i.bytes = bytes) (h6 : z.cells.size = size) (h7 : 0 < size)
    (v : Value) (n : Nat) (xs : List Value) (hs : a.eval s = v) (hown : w.ownsRow 0 e size v n xs)
    (ad : Addr) (m c : Nat) (news : List Value) (hx : a.eval x = .slice (some ad) m c) (hn : news.length = m * size) (hc : ∀ j u, news[j]? = some u → w.cell? (ad.add j) = some u) (h1c : ∀ u ∈ news, u.oneCell' = true)
    (b1 : n + m ≤ maxLen) (b2 : (n + m) * bytes ≤ 140737488355328)
    (hK : ∀ v' w', w'.ownsRow 0 e size v' (n + m) (xs ++ news) → w.grownBy w' v.ownBlock → Nx w v.ownBlock v'.ownBlock → K (a.put o.dst v') w') :
    if Region.wanted o (yielded ops a.tmps) = true then Oper.wp P o a w K Q else E := by
  have hw : Region.wanted o (yielded ops a.tmps) = true := by simp [Region.wanted, hg]
  rw [if_pos hw]
  obtain ⟨v', w', hrun, r1, r2, r3⟩ := run_append_own2 (P := P) w t o.type e i z size bytes h1 h2 h3 h4 h5 h6 h7 v n xs hown ad m c news hn hc h1c b1 b2
  unfold Oper.wp
  simp [execOp, hop, resolve, invoke, builtin, hs, hx, hrun, Result.andThen]
  exact hK v' w' r1 r2 r3

def set0 (V : Nat → Value) (v : Value) : Nat → Value := fun j => if j = 0 then v else V j
theorem bv_take_at {xs : List Int} {k j : Nat} {u : Value} (h : (bv (xs.take k))[j]? = some u) : j < k ∧ j < xs.length ∧ u = .int .u8 (xs.getD j 0) := by
  obtain ⟨hj, rfl⟩ := map_get h
  rw [List.length_take] at hj
  exact ⟨by omega, by omega, by rw [getD_take _ (by omega)]⟩

theorem own_set {w : World} {base : Nat} {e : TypeId} {size n : Nat} {v : Value} {xs : List Value} (h : w.ownsRow base e size v n xs) {g : Nat} (hne : v.ownBlock ≠ some g) (o : Nat) (u : Value) : (w.setCell ⟨g, o, none⟩ u).ownsRow base e size v n xs :=
  h.kept (row := some g) ⟨rfl, rfl, rfl, by simp, fun k hk hk2 => Below.heap_setCell _ _ _ _ (fun e => hk2 (by rw [e]))⟩ (.inr hne)
theorem Nx.neg {w : World} {K K' : Option Nat} (h : Nx w K K') {g : Nat} (hg : g < w.heap.size) (hK : some g ≠ K) : K' ≠ some g := fun e => (h.ne hg hK) e.symm
/-- What fill leaves. -/
def FillP (g : Nat) (K : Option Nat) (V : Nat → Value) (xs : List Int) (n k gm om m cm : Nat) (bs : List Int) (w : World) (r : Ending) (w' : World) : Prop :=
  ∃ A' c' om' K', r = .returned (.slice (some ⟨gm, om', none⟩) (m - k) (cm - k)) ∧ (k < m → om' = om + k) ∧
      FrC w' g (set0 V (.slice A' (n + k) c')) ∧ w'.ownsRow 0 5 1 (.slice A' (n + k) c') (n + k) (bv (xs ++ bs.take k)) ∧ (Value.slice A' (n + k) c').ownBlock = K' ∧ Nx w K K' ∧ Ch g K w w'

set_option maxRecDepth 100000 in
set_option maxHeartbeats 1000000 in
theorem fill_walk (g : Nat) (K : Option Nat) (V : Nat → Value) (xs : List Int) (A : Option Addr) (n c0 : Nat) (N : Int) (D k : Nat) (gm om m cm : Nat) (bs : List Int) (w : World)
    (hC : FrC w g V) (hV : V 0 = .slice A n c0) (ho : w.ownsRow 0 5 1 (.slice A n c0) n (bv xs)) (hK : (Value.slice A n c0).ownBlock = K) (hgK : some g ≠ K)
    (hr : RdB w (.slice (some ⟨gm, om, none⟩) m cm) bs) (hx : n ≤ 65535) (hN : N - n = D) (hD : D ≤ 65535) (hkm : k ≤ m) (hkD : k ≤ D)
    (hmm : ((D : Int) ≤ m ∧ k = D) ∨ (¬ (D : Int) ≤ m ∧ k = m)) :
    Calls Try.prog 68 #[.pointer (some ⟨g, 0, none⟩), .int .i64 N, .slice (some ⟨gm, om, none⟩) m cm] w (FillP g K V xs n k gm om m cm bs w) := by
  obtain ⟨iB, hiB, hz0, hz1, hz2⟩ := info_parts Try.infoB
  have hml := hr.len
  have hc0 := (hC.2 0 (by omega)).1
  have hf0 := (hC.2 0 (by omega)).2
  rw [hV] at hc0
  have hsrc : ∀ j u, (bv (bs.take k))[j]? = some u → w.cell? ((⟨gm, om, none⟩ : Addr).add j) = some u := fun j u hu => by
    obtain ⟨h1, h2, rfl⟩ := bv_take_at hu
    obtain ⟨-, -, A1, c1, e, -, -, h4⟩ := hr
    injection e with e1 e2 e3
    obtain ⟨gm', om', e, _, hc⟩ := h4 (by omega)
    rw [← e1] at e
    injection e with e
    injection e with e4 e5
    subst e4 e5
    rw [add_plain']
    exact hc j h2
  have hkI : (k : Int) ≤ m := by omega
  have hkc : (k : Int) ≤ cm := by omega
  have hD0 : (0 : Int) ≤ D := by omega
  have HO := Lib.hid ho
  have HK := Lib.hid hK
  have HSRC := Lib.hid hsrc
  have HCC := Lib.hid hC
  have HL := Lib.hid (show (bv (bs.take k)).length = k * 1 by rw [bv_length, List.length_take]; omega)
  have HG := Lib.hid hgK
  have hcm := hml.2.2
  have hmc := hml.2.1
  clear hC ho hK hr hml hsrc hgK
  rcases hmm with ⟨h1, rfl⟩ | ⟨h1, rfl⟩
  · go_enter Try.func68, Try.ntmps68
    go_wp2_with fail
    go_region_law (refine step_append_own2 rfl (.tmp 23) (.tmp 26) 24 rfl 5 iB (.int .u8 0) 1 1 Try.underlying24 hiB hz0 hz1 hz2 rfl (by decide) (.slice A n c0) n (bv xs) (by simp [Act.eval, Act.put]) HO.out ⟨gm, om, none⟩ k cm (bv (bs.take k)) (by simp [Act.eval, Act.put]) HL.out HSRC.out (u8_one _) (by unfold maxLen; omega) (by omega) ?_; intro v' w' hown' hgrow hnx; obtain ⟨A', c', rfl⟩ := own_form hown'; have hq := FrC.grown (w := w.drew) HCC.out hgrow (by rw [HK.out]; exact HG.out); have hq0 := (hq.2 0 (by omega)).1; have hqf := (hq.2 0 (by omega)).2; have HQ := Lib.hid hq; have HOW := Lib.hid hown'; have HGR := Lib.hid hgrow; have HNX := Lib.hid hnx; rw [hV] at hq0; clear hq hown' hgrow hnx)
    all_goals go_wp2_with fail
    all_goals go_ret
    all_goals have hne := HNX.out.neg (g := g) HCC.out.1 (by rw [HK.out]; exact HG.out)
    all_goals have how := own_set (by rw [← bv_append] at HOW; exact HOW.out) hne 0 (Value.slice A' (n + k) c')
    all_goals (first
      | (exact ⟨_, _, om + k, _, by first | rfl | (rw [Nat.sub_self]; rfl), fun _ => rfl, HQ.out.set 0 _ _ (fun _ => rfl) (fun j hj => by simp [set0, hj]), how, rfl, by rw [← HK.out]; exact HNX.out, ((Ch.refl g K w).drew.grown HGR.out (by rw [HK.out]; exact Nx.refl _ _)).set 0 _⟩)
      | (exact ⟨_, _, om, _, by first | rfl | (rw [Nat.sub_self]; rfl), fun _ => by omega, HQ.out.set 0 _ _ (fun _ => rfl) (fun j hj => by simp [set0, hj]), how, rfl, by rw [← HK.out]; exact HNX.out, ((Ch.refl g K w).drew.grown HGR.out (by rw [HK.out]; exact Nx.refl _ _)).set 0 _⟩))
  · go_enter Try.func68, Try.ntmps68
    go_wp2_with fail
    go_region_law (refine step_append_own2 rfl (.tmp 23) (.tmp 26) 24 rfl 5 iB (.int .u8 0) 1 1 Try.underlying24 hiB hz0 hz1 hz2 rfl (by decide) (.slice A n c0) n (bv xs) (by simp [Act.eval, Act.put]) HO.out ⟨gm, om, none⟩ k cm (bv (bs.take k)) (by simp [Act.eval, Act.put]) HL.out HSRC.out (u8_one _) (by unfold maxLen; omega) (by omega) ?_; intro v' w' hown' hgrow hnx; obtain ⟨A', c', rfl⟩ := own_form hown'; have hq := FrC.grown (w := w.drew) HCC.out hgrow (by rw [HK.out]; exact HG.out); have hq0 := (hq.2 0 (by omega)).1; have hqf := (hq.2 0 (by omega)).2; have HQ := Lib.hid hq; have HOW := Lib.hid hown'; have HGR := Lib.hid hgrow; have HNX := Lib.hid hnx; rw [hV] at hq0; clear hq hown' hgrow hnx)
    all_goals go_wp2_with fail
    all_goals go_ret
    all_goals have hne := HNX.out.neg (g := g) HCC.out.1 (by rw [HK.out]; exact HG.out)
    all_goals have how := own_set (by rw [← bv_append] at HOW; exact HOW.out) hne 0 (Value.slice A' (n + k) c')
    all_goals (first
      | (exact ⟨_, _, om + k, _, by first | rfl | (rw [Nat.sub_self]; rfl), fun _ => rfl, HQ.out.set 0 _ _ (fun _ => rfl) (fun j hj => by simp [set0, hj]), how, rfl, by rw [← HK.out]; exact HNX.out, ((Ch.refl g K w).drew.grown HGR.out (by rw [HK.out]; exact Nx.refl _ _)).set 0 _⟩)
      | (exact ⟨_, _, om, _, by first | rfl | (rw [Nat.sub_self]; rfl), fun _ => by omega, HQ.out.set 0 _ _ (fun _ => rfl) (fun j hj => by simp [set0, hj]), how, rfl, by rw [← HK.out]; exact HNX.out, ((Ch.refl g K w).drew.grown HGR.out (by rw [HK.out]; exact Nx.refl _ _)).set 0 _⟩))

/-- drop hands the bytes back, and keeps nothing. -/
def DropP (g : Nat) (v : Value) (V : Nat → Value) (w : World) (r : Ending) (w' : World) : Prop :=
  r = .returned v ∧ w' = (w.setCell ⟨g, 0, none⟩ (.slice none 0 0)).setCell ⟨g, 1, none⟩ (.int .i64 0)
set_option maxRecDepth 100000 in
theorem drop_any (g : Nat) (V : Nat → Value) (A : Option Addr) (n c : Nat) (x : Int) (w : World) (hC : FrC w g V) (hV : V 0 = .slice A n c) (hV1 : V 1 = .int .i64 x) :
    Calls Try.prog 62 #[.pointer (some ⟨g, 0, none⟩)] w (DropP g (.slice A n c) V w) := by
  have c0 := (hC.2 0 (by omega)).1
  have f0 := (hC.2 0 (by omega)).2
  have c1 := (hC.2 1 (by omega)).1
  have f1 := (hC.2 1 (by omega)).2
  rw [hV] at c0
  rw [hV1] at c1
  clear hC hV hV1
  go_enter Try.func62, Try.ntmps62
  go_wp2_with fail
  go_ret
  exact ⟨rfl, rfl⟩

end Go.Proofs.Ytdiiolbkjmhmdaa
