/- append of events onto a row of the call's own: no byte lies in the row's block. -/
import Derived.Test.YtdiiolbkjmhmdaaFrV
namespace Go.Proofs.Ytdiiolbkjmhmdaa
open Go.RowKit
set_option linter.unusedSimpArgs false
set_option linter.unusedVariables false

/-- No byte lies in the row's block. -/
def NoB (w : World) (v : Value) : Prop := ∀ k, v.ownBlock = some k → ∀ cur ty fz, w.heap[k]? = some (.cells cur ty fz) → ∀ u ∈ cur.toList, ∀ x, u ≠ .int .u8 x
theorem NoB.nil (w : World) : NoB w (.slice none 0 0) := fun k hk => by simp [Value.ownBlock] at hk
theorem NoB.same {w w' : World} {v : Value} (h : NoB w v) (he : ∀ k, v.ownBlock = some k → w'.heap[k]? = w.heap[k]?) : NoB w' v := fun k hk cur ty fz hh => h k hk cur ty fz (by rw [← he k hk]; exact hh)
theorem zero_nob (n : Nat) : ∀ u ∈ (Builtin.zeroCells zEv.cells n).toList, ∀ x, u ≠ .int .u8 x := by
  intro u hu x h
  subst h
  simp only [Builtin.zeroCells, zEv, Value.cells] at hu
  simp at hu
  obtain ⟨a, h1, h2⟩ := hu
  have : a % 6 = 0 ∨ a % 6 = 1 ∨ a % 6 = 2 ∨ a % 6 = 3 ∨ a % 6 = 4 ∨ a % 6 = 5 := by omega
  rcases this with h | h | h | h | h | h <;> simp [h] at h2
theorem run_append_zero {P : Program} (w : World) (t ty e : TypeId) (i : TypeInfo) (ht : P.underlying t = some (.slice e)) (hi : P.info? e = some i) (a : Addr) (c : Nat) :
    (Builtin.append_ #[t, t] ty #[.slice none 0 0, .slice (some a) 0 c]).run P w = .ok (.slice none 0 0) w := by
  have hf := run_firstCells_some (P := P) w i.size 0 a 0 c [] (by simp) (fun j u hu => by simp at hu)
  simp [Builtin.append_, run_underlying ht, sizeOf, typeInfo, hi, Builtin.lenOf, hf]
theorem run_append_own3 {P : Program} (w : World) (t ty e : TypeId) (i : TypeInfo) (bytes : Nat) (ht : P.underlying t = some (.slice e)) (hi : P.info? e = some i) (hz : i.zero = some zEv)
    (hsize : i.size = 6) (hby : i.bytes = bytes)
    (v : Value) (n : Nat) (xs : List Value) (hown : w.ownsRow 0 e 6 v n xs) (hno : NoB w v)
    (a : Addr) (m c : Nat) (news : List Value) (hl : news.length = m * 6) (hnews : ∀ j u, news[j]? = some u → w.cell? (a.add j) = some u) (h1 : ∀ u ∈ news, u.oneCell' = true) (hnn : ∀ u ∈ news, ∀ x, u ≠ .int .u8 x)
    (h63 : n + m ≤ maxLen) (hbytes : (n + m) * bytes ≤ 140737488355328) :
    ∃ v' w', (Go.Builtin.append_ #[t, t] ty #[v, .slice (some a) m c]).run P w = .ok v' w' ∧ w'.ownsRow 0 e 6 v' (n + m) (xs ++ news) ∧ w.grownBy w' v.ownBlock ∧ Nx w v.ownBlock v'.ownBlock ∧ NoB w' v' := by
  obtain ⟨v', w', hrun, r1, r2, r3⟩ := run_append_own2 (P := P) w t ty e i zEv 6 bytes ht hi hz hsize hby rfl (by omega) v n xs hown a m c news hl hnews h1 h63 hbytes
  refine ⟨v', w', hrun, r1, r2, r3, ?_⟩
  have hxs : ∀ (k : Nat) cur fz, v.ownBlock = some k → w.heap[k]? = some (.cells cur e fz) → ∀ u ∈ cur.toList, ∀ x, u ≠ .int .u8 x := fun k cur fz hk hh => hno k hk cur e fz hh
  rcases hown.2 with ⟨rfl, hn⟩ | ⟨g, cap, cur, rfl, hb, hg, hnc, hcm, hcs, ht'⟩
  · by_cases hm : m = 0
    · subst hm
      rw [run_append_zero w t ty e i ht hi a c] at hrun
      injection hrun with e1 e2
      subst e1 e2
      exact NoB.nil _
    · have hr := run_append_nil (P := P) w t ty e i zEv ht hi hz a m c news (by rw [hl, hsize]) hnews (by omega) (by unfold maxLen at h63; omega) (by rw [hby]; rw [hn, Nat.zero_add] at hbytes; omega)
      rw [hrun] at hr
      injection hr with e1 e2
      subst e1 e2
      intro k hk cur ty' fz hh
      have hk' : w.heap.size = k := by simpa [Value.ownBlock] using hk
      subst hk'
      have hnew := heap_alloc_new w.drew (.cells (news.toArray ++ Builtin.zeroCells zEv.cells (grownCap w m 0 e - m)) e)
      rw [show w.drew.heap.size = w.heap.size from rfl] at hnew
      rw [hnew] at hh
      injection hh with hh
      injection hh with h2 _ _
      subst h2
      intro u hu
      simp only [Array.toList_append, List.mem_append] at hu
      rcases hu with hu | hu
      · exact hnn u hu
      · exact zero_nob _ u hu
  · by_cases hroom : n + m ≤ cap
    · have hr := run_append_room (P := P) w t ty e i ht hi g n cap cur hg a m c news (by rw [hl, hsize]) hnews h1 hroom (by rw [hl, hsize, hcs, ← Nat.add_mul]; exact Nat.mul_le_mul_right _ hroom)
      rw [hrun] at hr
      injection hr with e1 e2
      subst e1 e2
      intro k hk cur' ty' fz hh
      have hk' : g = k := by simpa [Value.ownBlock] using hk
      subst hk'
      simp only [World.setRow, Array.getElem?_modify, hg] at hh
      simp at hh
      obtain ⟨h2, _, _⟩ := hh
      subst h2
      intro u hu
      have hold := hxs g cur _ rfl hg
      simp only [List.mem_append] at hu
      rcases hu with hu | hu | hu
      · exact hold u (List.mem_of_mem_take hu)
      · exact hnn u hu
      · exact hold u (List.mem_of_mem_drop hu)
    · have hold : (Go.Builtin.firstCells i.size n (.slice (some ⟨g, 0, none⟩) n cap)).run P w.drew = .ok xs.toArray w.drew := by
        have := run_firstCells_some (P := P) w.drew i.size n ⟨g, 0, none⟩ n cap xs (by rw [hown.1, hsize]) (fun j u hu => by
          show w.cell? _ = _
          exact hown.cells (g := g) rfl j u hu)
        exact this
      have hr := run_append_grow_src (P := P) w t t ty e i zEv ht hi hz (some ⟨g, 0, none⟩) n cap xs hold (.slice (some a) m c) m news (Src.ofSlice w ht a m c news (by rw [hl, hsize]) hnews h1) (by omega)
        (by unfold maxLen at h63; omega)
        (growslice_fits (by omega) (by rw [hby]; omega))
      rw [hrun] at hr
      injection hr with e1 e2
      subst e1 e2
      intro k hk cur' ty' fz hh
      have hk' : w.heap.size = k := by simpa [Value.ownBlock] using hk
      subst hk'
      have hnew := heap_alloc_new w.drew (.cells ((xs ++ news).toArray ++ Builtin.zeroCells zEv.cells (grownCap w (n + m) cap e - (n + m))) e)
      rw [show w.drew.heap.size = w.heap.size from rfl] at hnew
      rw [hnew] at hh
      injection hh with hh
      injection hh with h2 _ _
      subst h2
      intro u hu
      have hold' := hxs g cur _ rfl hg
      simp only [Array.toList_append, List.mem_append] at hu
      rcases hu with (hu | hu) | hu
      · refine hold' u ?_
        rw [← ht'] at hu
        exact List.mem_of_mem_take hu
      · exact hnn u hu
      · exact zero_nob _ u hu

/-- append of events onto a row of the call's own. -/
theorem append_ev3 {P : Program} {w : World} {ops : Array Oper} {rest : List Oper} {o : Oper} {a : Act} {Q : Exit → Act → World → Prop} (hgd : o.guard = none) (s x : Operand) (t : TypeId)
    (ho : o.op = .call { callee := .builtin .append, args := #[s, x], argTypes := #[t, t] })
    (e : TypeId) (i : TypeInfo) (bytes : Nat) (ht : P.underlying t = some (.slice e)) (hi : P.info? e = some i) (hz : i.zero = some zEv)
    (hsize : i.size = 6) (hby : i.bytes = bytes) (B : Nat) (hB : B ≤ w.heap.size)
    (v : Value) (n : Nat) (xs : List Value) (hs : a.eval s = v) (hown : w.ownsRow B e 6 v n xs) (hno : NoB w v)
    (vx : Value) (m : Nat) (cs : List Value) (hx : a.eval x = vx) (hp : EvP w vx m cs) (hnn : ∀ u ∈ cs, ∀ x, u ≠ .int .u8 x) (h63 : n + m ≤ maxLen) (hbytes : (n + m) * bytes ≤ 140737488355328)
    (h : ∀ v' w', w'.ownsRow B e 6 v' (n + m) (xs ++ cs) → w.grownBy w' v.ownBlock → Nx w v.ownBlock v'.ownBlock → NoB w' v' → wpList P ops Q rest (a.put o.dst v') w') : wpList P ops Q (o :: rest) a w := by
  obtain ⟨h1, h2, h3⟩ := hp
  rcases h3 with ⟨rfl, rfl⟩ | ⟨g, c, rfl, hc, hg, hq⟩
  · obtain rfl : cs = [] := List.eq_nil_of_length_eq_zero (by omega)
    refine wpList_append_own_none hgd s x t ho B e i 6 ht hi v n xs hs hown hx ?_
    exact h v w (by rw [List.append_nil]; exact hown) ⟨rfl, rfl, rfl, Nat.le_refl _, fun _ _ _ => rfl⟩ (Nx.refl _ _) hno
  · obtain ⟨v', w', hrun, r1, r2, r3, r4⟩ := run_append_own3 (P := P) w t o.type e i bytes ht hi hz hsize hby v n xs (own_mono hown (Nat.zero_le _)) hno ⟨g, 0, none⟩ m c cs h1 (fun j u hu => by rw [add_plain', Nat.zero_add]; exact hq j u hu) h2 hnn h63 hbytes
    refine Lib.wpList_append_run w hgd s x t t ho _ _ hs hx v' w' hrun (h v' w' (own_raise r1 (fun k hk => ?_)) r2 r3 r4)
    rcases r3 with h | h | ⟨k', h, hk'⟩
    · rw [h] at hk; cases hk
    · rw [h] at hk; exact (hown.lt k hk).1
    · rw [h] at hk; injection hk with hk; omega
/-- Bytes lie apart from a row in which no byte lies. -/
theorem NoB.ne {w : World} {v : Value} (h : NoB w v) {A : Option Addr} {n c : Nat} {xs : List Int} (hr : RdB w (.slice A n c) xs) : 0 < n → ∀ a, A = some a → some a.block ≠ v.ownBlock := fun hp a ha e => by
  have hl := hr.len.1
  obtain ⟨h0, h1, A1, c1, e1, h2, h3, h4⟩ := hr
  injection e1 with e1 e2 e3
  subst e1
  obtain ⟨g, o, e4, hg, hc⟩ := h4 (by omega)
  rw [e4] at ha; injection ha with ha; subst ha
  have h5 := hc 0 (by omega)
  unfold World.cell? at h5
  cases hh : w.heap[g]? with
  | none => simp [hh] at h5
  | some ob =>
    cases ob with
    | cells cur ty fz =>
      simp [hh] at h5
      exact h g e.symm cur ty fz hh _ (by rw [← Array.mem_def]; exact Array.mem_of_getElem? h5) _ rfl
    | _ => simp [hh] at h5
theorem EvL.cells {w : World} {g : Nat} {K : Option Nat} {cs : List Value} {es : List Ev} (h : EvL w g K cs es) : ∀ u ∈ cs, ∀ x, u ≠ .int .u8 x := fun u hu x hx => by
  obtain ⟨j, hj, e⟩ := List.mem_iff_getElem.1 hu
  have hi : j / 6 < es.length := by have := h.1; omega
  obtain ⟨F, cf, D, cd, q0, q1, q2, q3, q4, q5, -⟩ := EvC.at h (List.getElem?_eq_getElem hi)
  have e' : cs[j]? = some u := by rw [List.getElem?_eq_getElem hj, e]
  rw [hx] at e'
  have hj6 : j = j / 6 * 6 + j % 6 := by omega
  have hm : j % 6 < 6 := by omega
  generalize j % 6 = r at hj6 hm
  rw [hj6] at e'
  match r, hm with
  | 0, _ => rw [show j / 6 * 6 + 0 = j / 6 * 6 from rfl, q0] at e'; cases e'
  | 1, _ => rw [q1] at e'; cases e'
  | 2, _ => rw [q2] at e'; cases e'
  | 3, _ => rw [q3] at e'; cases e'
  | 4, _ => rw [q4] at e'; cases e'
  | 5, _ => rw [q5] at e'; cases e'
theorem EvL.grown {w w1 : World} {g : Nat} {K : Option Nat} {cs : List Value} {es : List Ev} {v : Value} (h : EvL w g K cs es) (hno : NoB w v) (hg : w.grownBy w1 v.ownBlock) : EvL w1 g K cs es := ⟨h.1, fun i e hi => by
  obtain ⟨F, nf, cf, D, nd, cd, hx, h1, h2, h3, h4, h5, h6, h7, h8⟩ := h.2 i e hi
  refine ⟨F, nf, cf, D, nd, cd, hx, h1, h2, h3.grown hg (hno.ne h3), h4, h5.grown hg (hno.ne h5), h6, fun a ha j hj => ?_, h8⟩
  obtain ⟨gm, om, e2, hlt⟩ := h3.lt (by omega)
  have hne := hno.ne h3 (by omega) a ha
  rw [World.frozen?_of_block (w := w) (a := ⟨a.block, a.off + j, none⟩) (hg.block a.block (by rw [e2] at ha; injection ha with ha; rw [← ha]; exact hlt) hne)]
  exact h7 a ha j hj⟩
theorem Fr.grown {w w1 : World} {g : Nat} {K : Option Nat} {v v2 : Value} {s : St} {a b c d e f : Bool} (h : Fr w g K v s a b c d e f) (hg : w.grownBy w1 v2.ownBlock) (h1 : some g ≠ v2.ownBlock) (h2 : ∀ k, K = some k → some k ≠ v2.ownBlock) : Fr w1 g K v s a b c d e f := by
  refine ⟨h.cs.grown hg h1, ⟨h.own.1, ?_⟩, h.blk, h.ne, h.ok⟩
  rcases h.own.2 with hn | ⟨g', cap, cur, e, p1, p2, p3⟩
  · exact .inl hn
  · have hk : some g' = K := by rw [← h.blk, e]; rfl
    exact .inr ⟨g', cap, cur, e, p1, by rw [hg.block g' (h.lt g' hk.symm) (h2 g' hk.symm)]; exact p2, p3⟩

/-- Split. -/
def SplitP (es : List Ev) (w : World) (r : Ending) (w' : World) : Prop := ∃ v g K base, r = .returned v ∧ EvS w' g K base v es ∧ Below w.heap.size w w'
set_option maxRecDepth 100000 in
theorem split_any (a b c d e f : Bool) (A : Option Addr) (m cm : Nat) (bs : List Int) (w : World) (hr : RdB w (.slice A m cm) bs) (hm : bs.length ≤ 1000000) :
    Calls Try.prog 38 #[.agg #[.bool a, .bool b, .bool c, .bool d, .bool e, .bool f], .slice A m cm] w (SplitP (feed b newSt bs).2 w) := by
  have HR := Lib.hid hr
  have HM := Lib.hid hm
  clear hr hm
  go_enter Try.func38, Try.ntmps38
  go_wp2_with fail
  refine (new_fr a b c d e f _).mono ?_
  rintro r w1 ⟨g, rfl, hg, hb1, hF⟩
  have hba := below_then' (below_alloc (Below.refl w.heap.size w) _) hb1
  have HBA := Lib.hid hba
  have HG := Lib.hid (show w.heap.size ≤ g by simp at hg; omega)
  have HFD := Lib.hid (feed_any hF A m cm bs (HR.out.below hba) (fun hp x hx => ⟨by
    obtain ⟨gm, om, e1, hlt⟩ := HR.out.lt hp
    rw [e1] at hx; injection hx with hx; rw [← hx]
    simp at hg; show gm ≠ g; omega, nofun⟩) (by have h0 : newSt.frames = 0 := rfl; have := HM.out; omega) nofun)
  clear hg hb1 hba hF
  go_wp2_with fail
  refine HFD.out.mono ?_
  rintro r w2 ⟨v, v2, K2, rfl, hE, hF2, hch, hnx⟩
  have HE := Lib.hid hE
  have HB := Lib.hid (HBA.out.trans (hch.bel HBA.out.size HG.out (fun k hk => by cases hk)))
  clear hE hF2 hch hnx
  go_wp2_with fail
  go_ret
  exact ⟨_, _, _, _, rfl, HE.out, HB.out⟩

end Go.Proofs.Ytdiiolbkjmhmdaa

