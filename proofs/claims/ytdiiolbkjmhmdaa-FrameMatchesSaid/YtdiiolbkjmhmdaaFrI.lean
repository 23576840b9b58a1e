/- slices.Concat of two slices of events. -/
import Derived.Test.YtdiiolbkjmhmdaaFrG
import Derived.Laws.AppendOwnNone
namespace Go.Proofs.Ytdiiolbkjmhmdaa
open Go.RowKit
set_option linter.unusedSimpArgs false
set_option linter.unusedVariables false

def zEv : Value := .agg #[.slice none 0 0, .int .i64 0, .int .i64 0, .int .i64 0, .slice none 0 0, .int .i64 0]
theorem Try.infoE : (Try.prog.info? 75).map (fun i => (i.zero, i.size, i.bytes)) = some (some zEv, 6, 80) := by kernel_rfl

set_option maxRecDepth 100000 in
set_option maxHeartbeats 1000000 in
theorem growE_nil (w : World) (n : Nat) (hn : n ≤ 1000000000000) :
    Calls Try.prog 71 #[.slice none 0 0, .int .i64 n] w (GrowPost 75 6 w) := by
  obtain ⟨iB, hiB, hz0, hz1, hz2⟩ := info_parts Try.infoE
  by_cases h0 : n = 0
  · subst h0
    go_enter Try.func71, Try.ntmps71
    go_wp2_with fail
    go_ret
    exact ⟨_, rfl, own_nil _ _ _ _, Below.refl _ _⟩
  · have hrz := fun ty => Lib.run_append_grow_zeros w 53 3 ty 75 iB zEv .i64 .i64 Try.underlying53 Try.underlying3 hiB hz0 none 0 0 [] (run_firstCells_none w.drew iB.size 0 0 0) n (by omega) (by omega) (by omega) (by omega)
        (by rw [hz2]; omega)
        (growslice_fits (by omega) (by rw [hz2]; omega))
    have hGn : 0 + n ≤ grownCap w (0 + n) 0 75 := grownCap_ge w _ _ _
    have hGm : grownCap w (0 + n) 0 75 ≤ maxLen := grownCap_le_maxLen w (0 + n) 0 _ (by unfold maxLen; omega)
    generalize grownCap w (0 + n) 0 75 = G at hrz hGn hGm
    obtain ⟨C, hC⟩ : ∃ C, C = (([] : List Value).toArray ++ Builtin.zeroCells zEv.cells n ++ Builtin.zeroCells zEv.cells (G - (0 + n))) := ⟨_, rfl⟩
    have hCs : C.size = G * 6 := by rw [hC]; simp [size_zeroCells, zEv, Value.cells]; omega
    rw [← hC] at hrz
    clear hC
    have HO := Lib.hid ((World.ownsRow_made w.drew C G (Nat.le_refl _) hGm hCs : (w.drew.alloc (.cells C 75)).ownsRow w.drew.heap.size 75 6 (.slice (some ⟨w.drew.heap.size, 0, none⟩) 0 G) 0 []))
    rw [Nat.zero_add] at hrz hGn
    have hG63 : G ≤ 9223372036854775807 := by unfold maxLen at hGm; omega
    clear hCs hGm
    go_enter Try.func71, Try.ntmps71
    go_wp2_with (at_builtin; refine Lib.wpList_append_run _ rfl _ _ _ _ rfl _ _ rfl rfl _ _ (hrz _) ?_)
    all_goals (go_ret; exact ⟨_, rfl, HO.out, below_alloc (Below.refl _ _).drew _⟩)

/-- A row of events that lies in the world w: nil, or cells that can be read. -/
def EvP (w : World) (v : Value) (n : Nat) (cs : List Value) : Prop :=
  cs.length = n * 6 ∧ (∀ u ∈ cs, u.oneCell' = true) ∧ ((v = .slice none 0 0 ∧ n = 0) ∨ ∃ g c, v = .slice (some ⟨g, 0, none⟩) n c ∧ n ≤ c ∧ g < w.heap.size ∧ ∀ j u, cs[j]? = some u → w.cell? ⟨g, j, none⟩ = some u)
theorem EvP.below {w w1 : World} {v : Value} {n : Nat} {cs : List Value} (h : EvP w v n cs) (hb : Below w.heap.size w w1) : EvP w1 v n cs := by
  obtain ⟨h1, h2, h3⟩ := h
  refine ⟨h1, h2, ?_⟩
  rcases h3 with h3 | ⟨g, c, e, hc, hg, hq⟩
  · exact .inl h3
  · exact .inr ⟨g, c, e, hc, Nat.lt_of_lt_of_le hg hb.size, fun j u hu => by rw [hb.cell hg]; exact hq j u hu⟩
theorem append_ev {P : Program} {w : World} {ops : Array Oper} {rest : List Oper} {o : Oper} {a : Act} {Q : Exit → Act → World → Prop} (hgd : o.guard = none) (s x : Operand) (t : TypeId)
    (ho : o.op = .call { callee := .builtin .append, args := #[s, x], argTypes := #[t, t] })
    (e : TypeId) (i : TypeInfo) (z : Value) (bytes : Nat) (ht : P.underlying t = some (.slice e)) (hi : P.info? e = some i) (hz : i.zero = some z)
    (hsize : i.size = 6) (hby : i.bytes = bytes) (hzs : z.cells.size = 6) (W0 : World) (hb : Below W0.heap.size W0 w)
    (v : Value) (n : Nat) (xs : List Value) (hs : a.eval s = v) (hown : w.ownsRow W0.heap.size e 6 v n xs)
    (vx : Value) (m : Nat) (cs : List Value) (hx : a.eval x = vx) (hp : EvP w vx m cs) (h63 : n + m ≤ maxLen) (hbytes : (n + m) * bytes ≤ 140737488355328)
    (h : ∀ v' w', w'.ownsRow W0.heap.size e 6 v' (n + m) (xs ++ cs) → Below W0.heap.size W0 w' → wpList P ops Q rest (a.put o.dst v') w') : wpList P ops Q (o :: rest) a w := by
  obtain ⟨h1, h2, h3⟩ := hp
  rcases h3 with ⟨rfl, rfl⟩ | ⟨g, c, rfl, hc, hg, hq⟩
  · obtain rfl : cs = [] := List.eq_nil_of_length_eq_zero (by omega)
    refine wpList_append_own_none hgd s x t ho W0.heap.size e i 6 ht hi v n xs hs hown hx ?_
    have := h v w (by rw [List.append_nil]; exact hown) hb
    exact this
  · exact wpList_append_own w hgd s x t ho W0.heap.size e i z 6 bytes ht hi hz hsize hby hzs (by omega) v n xs hs hown ⟨g, 0, none⟩ m c cs hx h1 (fun j u hu => by rw [add_plain', Nat.zero_add]; exact hq j u hu) h2 h63 hbytes hb.size
      (fun v' w' ho' hg' _ => h v' w' ho' (hb.grown hg' hb.size (fun k hk => (hown.lt k hk).1)))
def CatP (N : Nat) (cs : List Value) (w : World) (r : Ending) (w' : World) : Prop := ∃ v, r = .returned v ∧ w'.ownsRow w.heap.size 75 6 v N cs ∧ Below w.heap.size w w'

set_option maxRecDepth 100000 in
set_option maxHeartbeats 2000000 in
theorem concatE (w : World) (g c : Nat) (v1 v2 : Value) (n1 n2 : Nat) (cs1 cs2 : List Value) (h1 : w.cell? ⟨g, 0, none⟩ = some v1) (h2 : w.cell? ⟨g, 1, none⟩ = some v2) (hg : g < w.heap.size) (p1 : EvP w v1 n1 cs1) (p2 : EvP w v2 n2 cs2) (hn : n1 + n2 ≤ 1000000000000) :
    Calls Try.prog 56 #[.slice (some ⟨g, 0, none⟩) 2 c] w (CatP (n1 + n2) (cs1 ++ cs2) w) := by
  obtain ⟨iB, hiB, hz0, hz1, hz2⟩ := info_parts Try.infoE
  have HG := Lib.hid (show Calls Try.prog 71 #[.slice none 0 0, .int .i64 ((n1 : Int) + n2)] w (GrowPost 75 6 w) by have := growE_nil w (n1 + n2) hn; rwa [Int.natCast_add] at this)
  have HP1 := Lib.hid (fun (W : World) (hb : Below w.heap.size w W) => p1.below hb)
  have HP2 := Lib.hid (fun (W : World) (hb : Below w.heap.size w W) => p2.below hb)
  have HGG := Lib.hid hg
  have HH := Lib.hid (And.intro h1 h2)
  obtain ⟨A1, d1, e1⟩ : ∃ A d, v1 = .slice A n1 d := by
    rcases p1.2.2 with ⟨e, h⟩ | ⟨g', c', e, _⟩
    · exact ⟨_, _, by rw [e, h]⟩
    · exact ⟨_, _, e⟩
  obtain ⟨A2, d2, e2⟩ : ∃ A d, v2 = .slice A n2 d := by
    rcases p2.2.2 with ⟨e, h⟩ | ⟨g', c', e, _⟩
    · exact ⟨_, _, by rw [e, h]⟩
    · exact ⟨_, _, e⟩
  subst e1 e2
  clear p1 p2 hg
  go_enter Try.func56, Try.ntmps56
  go_wp2_with fail
  refine wp_loop_rounds 3 ?_
  rw [rounds_succ]
  go_wp2_with fail
  rw [rounds_succ]
  go_wp2_with fail
  rw [rounds_succ]
  go_wp2_with fail
  refine HG.out.mono ?_
  rintro r w1 ⟨v0, rfl, ho, hb⟩
  have k1 : w1.cell? ⟨g, 0, none⟩ = some (.slice A1 n1 d1) := by rw [hb.cell HGG.out]; exact HH.out.1
  have HO := Lib.hid ho
  have HB := Lib.hid hb
  clear ho hb h1 h2
  go_wp2_with fail
  refine wp_loop_rounds 3 ?_
  rw [rounds_succ]
  go_wp2_with (at_builtin; refine append_ev rfl _ _ 53 rfl 75 iB zEv 80 Try.underlying53 hiB hz0 hz1 hz2 rfl w HB.out _ 0 [] rfl HO.out _ n1 cs1 rfl (HP1.out _ HB.out) ?c3 ?c4 ?_)
  case c3 => unfold maxLen; omega
  case c4 => omega
  intro v' w2 ho2 hb2
  have k2 : w2.cell? ⟨g, 1, none⟩ = some (.slice A2 n2 d2) := by rw [hb2.cell HGG.out]; exact HH.out.2
  have HO2 := Lib.hid ho2
  have HB2 := Lib.hid hb2
  clear ho2 hb2 k1
  go_wp2_with fail
  rw [rounds_succ]
  go_wp2_with (at_builtin; refine append_ev rfl _ _ 53 rfl 75 iB zEv 80 Try.underlying53 hiB hz0 hz1 hz2 rfl w HB2.out _ n1 cs1 rfl HO2.out _ n2 cs2 rfl (HP2.out _ HB2.out) ?c3 ?c4 ?_)
  case c3 => unfold maxLen; omega
  case c4 => omega
  intro v'' w3 ho3 hb3
  have HO3 := Lib.hid ho3
  have HB3 := Lib.hid hb3
  clear ho3 hb3 k2
  go_wp2_with fail
  rw [rounds_succ]
  go_wp2_with fail
  go_ret
  exact ⟨_, rfl, HO3.out, HB3.out⟩

end Go.Proofs.Ytdiiolbkjmhmdaa
