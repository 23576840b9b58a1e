/- The reference's framer: one, Feed. -/
import Derived.Test.YtdiiolbkjmhmdaaFrT
import Derived.Test.YtdiiolbkjmhmdaaFrS
namespace Go.Proofs.Ytdiiolbkjmhmdaa
open Go.RowKit
set_option linter.unusedSimpArgs false
set_option linter.unusedVariables false

theorem stop_here {p : Prop} (h : Hid p) : p := h
theorem append_bytes {P : Program} {w : World} {ops : Array Oper} {rest : List Oper} {o : Oper} {a : Act} {Q : Exit → Act → World → Prop} (hgd : o.guard = none) (s x : Operand) (t : TypeId)
    (ho : o.op = .call { callee := .builtin .append, args := #[s, x], argTypes := #[t, t] })
    (e : TypeId) (i : TypeInfo) (z : Value) (ht : P.underlying t = some (.slice e)) (hi : P.info? e = some i) (hz : i.zero = some z)
    (hsize : i.size = 1) (hby : i.bytes = 1) (hzs : z.cells.size = 1) (W0 : World) (B : Nat) (hB : B = W0.heap.size) (hb : Below W0.heap.size W0 w)
    (v : Value) (n : Nat) (xs : List Value) (hs : a.eval s = v) (hown : w.ownsRow B e 1 v n xs)
    (A : Option Addr) (m c : Nat) (ys : List Int) (hx : a.eval x = .slice A m c) (hr : RdB w (.slice A m c) ys) (hn : n + m ≤ 1000000000000)
    (h : ∀ v' w', w'.ownsRow B e 1 v' (n + m) (xs ++ bv ys) → Below W0.heap.size W0 w' → wpList P ops Q rest (a.put o.dst v') w') : wpList P ops Q (o :: rest) a w := by
  subst hB
  have hl := hr.len
  obtain ⟨b2, m2, A2, c2, e1, k2, k2', r2⟩ := hr
  injection e1 with e1 e2 e3
  subst e1 e3
  cases A with
  | none =>
    have h0 : ys = [] := by
      by_cases h : 0 < ys.length
      · obtain ⟨_, _, e, _⟩ := r2 h; cases e
      · exact List.eq_nil_of_length_eq_zero (by omega)
    subst h0
    obtain rfl : m = 0 := by simpa using e2
    have hc0 : c = 0 := k2'.2 rfl
    refine wpList_append_own_none hgd s x t ho W0.heap.size e i 1 ht hi v n xs hs hown (by rw [hx, hc0]) ?_
    exact h v w (by simpa [bv] using hown) hb
  | some ad =>
    exact wpList_append_own w hgd s x t ho W0.heap.size e i z 1 1 ht hi hz hsize hby hzs (by omega) v n xs hs hown ad m c (bv ys) hx (by rw [bv_length, Nat.mul_one]; exact hl.1.symm) (fun j u hu => by
        obtain ⟨hj, rfl⟩ := map_get hu
        obtain ⟨g2, o2, e, hg2, hc⟩ := r2 (by omega)
        injection e with e
        subst e
        rw [add_plain']; exact hc j hj) (u8_one _) (by unfold maxLen; omega) (by omega) hb.size
      (fun v' w' ho' hg' _ => h v' w' ho' (hb.grown hg' hb.size (fun k hk => (hown.lt k hk).1)))

section
variable {b : Bool} {s : St} {x : Int} {ks : List Int} {H : Ans}
theorem one_v (hks : ks = s.kept ++ [x]) (hH : H = hdr b ks) (hl : looks ks x = true) (hv : ¬ H.va = 0) : one b s x = (⟨[], s.len, true, s.frames⟩, [evV H]) := by
  subst hH hks; unfold one; rw [if_pos hl, if_pos hv]
theorem one_c (hks : ks = s.kept ++ [x]) (hH : H = hdr b ks) (hl : looks ks x = true) (hv : H.va = 0) (h : 19 ≤ ks.length ∧ (ks.length : Int) = H.n) : one b s x = (⟨[], H.n, s.closed, s.frames + 1⟩, [evF ks]) := by
  subst hH hks; unfold one; rw [if_pos hl, if_neg (fun h => h hv), if_pos h]
theorem one_k (hks : ks = s.kept ++ [x]) (hH : H = hdr b ks) (hl : looks ks x = true) (hv : H.va = 0) (h : ¬ (19 ≤ ks.length ∧ (ks.length : Int) = H.n)) : one b s x = (⟨ks, H.n, s.closed, s.frames⟩, []) := by
  subst hH hks; unfold one; rw [if_pos hl, if_neg (fun h => h hv), if_neg h]
theorem one_c' (hks : ks = s.kept ++ [x]) (hl : ¬ looks ks x = true) (h : 19 ≤ ks.length ∧ (ks.length : Int) = s.len) : one b s x = (⟨[], s.len, s.closed, s.frames + 1⟩, [evF ks]) := by
  subst hks; unfold one; rw [if_neg hl, if_pos h]
theorem one_k' (hks : ks = s.kept ++ [x]) (hl : ¬ looks ks x = true) (h : ¬ (19 ≤ ks.length ∧ (ks.length : Int) = s.len)) : one b s x = (⟨ks, s.len, s.closed, s.frames⟩, []) := by
  subst hks; unfold one; rw [if_neg hl, if_neg h]
end

set_option maxRecDepth 100000 in
set_option maxHeartbeats 4000000 in
theorem one_ref {w : World} {s : St} {a b c d e f : Bool} (A : Option Addr) (m cm : Nat) (hr : RdB w (.slice A m cm) s.kept) (hm : m ≤ 100000) (x : Int) (hx : 0 ≤ x ∧ x ≤ 255) (hfr : 0 ≤ s.frames ∧ s.frames ≤ 1000000000000) :
    Calls Try.prog 57 #[.agg #[.bool a, .bool b, .bool c, .bool d, .bool e, .bool f, .slice A m cm, .int .i64 s.len, .bool s.closed, .int .i64 s.frames], .int .u8 x] w (OneP a b c d e f (one b s x).1 (one b s x).2 w) := by
  obtain ⟨iB, hiB, hz0, hz1, hz2⟩ := info_parts Try.infoB
  obtain ⟨W0, hW0⟩ : ∃ W0, W0 = (w.alloc (.cells #[.bool a, .bool b, .bool c, .bool d, .bool e, .bool f, .slice A m cm, .int .i64 s.len, .bool s.closed, .int .i64 s.frames] 56)).alloc (.cells #[.bool false, .bool false, .bool false, .bool false, .bool false, .bool false, .slice none 0 0, .int .i64 0, .bool false, .int .i64 0] 56) := ⟨_, rfl⟩
  have hsz : W0.heap.size = w.heap.size + 1 + 1 := by rw [hW0]; simp
  have hE0 := own_mono (b' := W0.heap.size) (World.ownsRow_made W0 #[] 0 (Nat.le_refl _) (by unfold maxLen; omega) rfl : (W0.alloc (.cells #[] 5)).ownsRow W0.heap.size 5 1 (.slice (some ⟨W0.heap.size, 0, none⟩) 0 0) 0 []) (Nat.le_refl _)
  rw [hsz] at hE0
  have hbw : Below w.heap.size w W0 := by rw [hW0]; exact below_alloc (below_alloc (Below.refl _ _) _) _
  have hwf : wrap64 (s.frames + 1) = s.frames + 1 := by have := IntKind.wrap_i64 (s.frames + 1); simp [IntKind.wrap] at this; first | omega | (unfold wrap64; omega)
  have HR := Lib.hid (hr.below (below_alloc hbw (.cells #[] 5)))
  have HX := Lib.hid hx
  have HWF := Lib.hid hwf
  have HE0 := Lib.hid hE0
  have HBA := Lib.hid (below_alloc (Below.refl W0.heap.size W0) (.cells #[] 5))
  have HBW := Lib.hid hbw
  have HSZ := Lib.hid hsz
  have HM := Lib.hid hm
  clear hr hx hE0 hbw hsz hm hfr hwf
  obtain ⟨OS, hOS⟩ : ∃ OS : St × List Ev, OS = one b s x := ⟨_, rfl⟩
  rw [← hOS]
  have HOS := Lib.hid hOS
  clear hOS
  subst hW0
  go_enter Try.func57, Try.ntmps57
  go_wp2_with (at_builtin; refine stop_here ?_)
  refine Lib.hid ?_
  refine append_bytes rfl _ _ 24 rfl 5 iB (.int .u8 0) Try.underlying24 hiB hz0 hz1 hz2 rfl _ _ HSZ.out.symm HBA.out _ 0 [] rfl HE0.out A m cm _ rfl HR.out ?c3 ?_
  case c3 => have := HM.out; omega
  intro v1 w1 ho1 hb1
  have HO1 := Lib.hid ho1
  have HB1 := Lib.hid hb1
  clear ho1 hb1
  have HL := Lib.hid (RdB.one w1 _ x HX.out rfl)
  go_wp2_with (at_builtin; refine append_bytes rfl _ _ 24 rfl 5 iB (.int .u8 0) Try.underlying24 hiB hz0 hz1 hz2 rfl _ _ HSZ.out.symm (below_alloc HB1.out _) _ _ _ rfl (own_below HO1.out (below_alloc (Below.refl _ _) _)) _ 1 1 _ rfl HL.out ?c3 ?_)
  case c3 => have := HM.out; omega
  intro v2 w2 ho2 hb2
  have QQ : ∀ (j : Nat) (u : Value), (#[.bool a, .bool b, .bool c, .bool d, .bool e, .bool f, .slice A m cm, .int .i64 s.len, .bool s.closed, .int .i64 s.frames] : Array Value)[j]? = some u → w2.cell? ⟨w.heap.size, j, none⟩ = some u := fun j u hu => by
    rw [hb2.cell (by show w.heap.size < w.heap.size + 1 + 1; omega), World.cell?_alloc_past _ _ _ (by simp), World.cell?_alloc_at _ _ _ _ rfl]; exact hu
  have qf : ∀ (j : Nat), w2.frozen? ⟨w.heap.size, j, none⟩ = false := fun j => by
    rw [hb2.frozen (by show w.heap.size < w.heap.size + 1 + 1; omega), World.frozen?_alloc_past _ _ _ (by simp), World.frozen?_alloc_at _ _ _ _ rfl]
  have RR : ∀ (j : Nat) (u : Value), (#[.bool false, .bool false, .bool false, .bool false, .bool false, .bool false, .slice none 0 0, .int .i64 0, .bool false, .int .i64 0] : Array Value)[j]? = some u → w2.cell? ⟨w.heap.size + 1, j, none⟩ = some u := fun j u hu => by
    rw [hb2.cell (by show w.heap.size + 1 < w.heap.size + 1 + 1; omega), World.cell?_alloc_at _ _ _ _ (by simp)]; exact hu
  have rf : ∀ (j : Nat), w2.frozen? ⟨w.heap.size + 1, j, none⟩ = false := fun j => by
    rw [hb2.frozen (by show w.heap.size + 1 < w.heap.size + 1 + 1; omega), World.frozen?_alloc_at _ _ _ _ (by simp)]
  obtain ⟨A2, c2, rfl⟩ := own_form ho2
  have q0 : w2.cell? ⟨w.heap.size, 0, none⟩ = some (Value.bool a) := QQ 0 _ rfl
  have r0 : w2.cell? ⟨w.heap.size + 1, 0, none⟩ = some (Value.bool false) := RR 0 _ rfl
  have q1 : w2.cell? ⟨w.heap.size, 1, none⟩ = some (Value.bool b) := QQ 1 _ rfl
  have r1 : w2.cell? ⟨w.heap.size + 1, 1, none⟩ = some (Value.bool false) := RR 1 _ rfl
  have q2 : w2.cell? ⟨w.heap.size, 2, none⟩ = some (Value.bool c) := QQ 2 _ rfl
  have r2 : w2.cell? ⟨w.heap.size + 1, 2, none⟩ = some (Value.bool false) := RR 2 _ rfl
  have q3 : w2.cell? ⟨w.heap.size, 3, none⟩ = some (Value.bool d) := QQ 3 _ rfl
  have r3 : w2.cell? ⟨w.heap.size + 1, 3, none⟩ = some (Value.bool false) := RR 3 _ rfl
  have q4 : w2.cell? ⟨w.heap.size, 4, none⟩ = some (Value.bool e) := QQ 4 _ rfl
  have r4 : w2.cell? ⟨w.heap.size + 1, 4, none⟩ = some (Value.bool false) := RR 4 _ rfl
  have q5 : w2.cell? ⟨w.heap.size, 5, none⟩ = some (Value.bool f) := QQ 5 _ rfl
  have r5 : w2.cell? ⟨w.heap.size + 1, 5, none⟩ = some (Value.bool false) := RR 5 _ rfl
  have q6 : w2.cell? ⟨w.heap.size, 6, none⟩ = some (.slice A m cm) := QQ 6 _ rfl
  have r6 : w2.cell? ⟨w.heap.size + 1, 6, none⟩ = some (Value.slice none 0 0) := RR 6 _ rfl
  have q7 : w2.cell? ⟨w.heap.size, 7, none⟩ = some (Value.int .i64 s.len) := QQ 7 _ rfl
  have r7 : w2.cell? ⟨w.heap.size + 1, 7, none⟩ = some (Value.int .i64 0) := RR 7 _ rfl
  have q8 : w2.cell? ⟨w.heap.size, 8, none⟩ = some (Value.bool s.closed) := QQ 8 _ rfl
  have r8 : w2.cell? ⟨w.heap.size + 1, 8, none⟩ = some (Value.bool false) := RR 8 _ rfl
  have q9 : w2.cell? ⟨w.heap.size, 9, none⟩ = some (Value.int .i64 s.frames) := QQ 9 _ rfl
  have r9 : w2.cell? ⟨w.heap.size + 1, 9, none⟩ = some (Value.int .i64 0) := RR 9 _ rfl
  have hz1 : w.heap.size < w2.heap.size := by have := hb2.size; simp at this; omega
  have hz2 : w.heap.size + 1 < w2.heap.size := by have := hb2.size; simp at this; omega
  have hml := HR.out.len.1
  have hl : (s.kept ++ [x]).length = m + 1 := by rw [List.length_append, hml]; rfl
  obtain ⟨ks, hks⟩ : ∃ ks, ks = s.kept ++ [x] := ⟨_, rfl⟩
  rw [← hks] at hl
  have HKS := Lib.hid hks
  have HF2 := Lib.hid (Fs.own ho2)
  have HRK := Lib.hid (show RdB w2 (.slice A2 (m + 1) c2) ks from by
    have h1 : (m + 1) = ks.length := hl.symm
    refine RdB.own (base := w.heap.size + 1 + 1) ?_ (fun y hy => ?_) (by rw [hl]; have := HM.out; unfold maxB; omega)
    · rw [← h1, hks, bv_append]; exact ho2
    · rw [hks] at hy
      rcases List.mem_append.1 hy with hy | hy
      · exact HR.out.1 y hy
      · have := HX.out; simp at hy; rw [hy]; exact this)
  have HZZ := Lib.hid (show w.heap.size + 2 ≤ w2.heap.size by omega)
  have HBB := Lib.hid (show Below w.heap.size w w2 from HBW.out.trans (hb2.mono (by omega)))
  have HL' := Lib.hid hl
  clear QQ RR ho2 hb2 HO1 HB1 HL hks hml hl HE0 HBA HR
  by_cases hlook : looks ks x = true
  · have HLK := Lib.hid hlook
    have hlk : (m + 1 ≤ 16 ∧ x ≠ 255) ∨ (¬ m + 1 ≤ 16 ∧ m + 1 = 19) := by
      have := HL'.out
      unfold looks at hlook
      rw [this] at hlook
      simp only [Bool.or_eq_true, Bool.and_eq_true, decide_eq_true_eq] at hlook
      omega
    clear hlook
    obtain ⟨H, hH⟩ : ∃ H, H = hdr b ks := ⟨_, rfl⟩
    have HPS := Lib.hid (fun w' (hr : RdB w' (.slice A2 (m + 1) c2) ks) => ref_fresh w' A2 (m + 1) c2 ks hr a b c d e f)
    rw [← hH] at HPS
    have HH := Lib.hid hH
    clear hH
    have HRS := Lib.hid (fun (v : Value) => HRK.out.ch (HF2.out.av (g := w.heap.size) (K := none) (by omega) nofun) ((Ch.refl _ _ _).set 6 v))
    have hg16 : (m : Int) + 1 ≤ 16 ∧ (x != 255) = true ∨ ¬ ((m : Int) + 1 ≤ 16) ∧ ((m : Int) + 1 == 19) = true := by
      rcases hlk with h | h
      · exact .inl ⟨by omega, by simpa using h.2⟩
      · exact .inr ⟨by omega, by simp; omega⟩
    clear hlk
    rcases hg16 with ⟨g1, g2⟩ | ⟨g1, g2⟩
    · go_wp2_with fail
      refine (HPS.out _ (HRS.out _)).mono ?_
      rintro r w3 ⟨D, cp, rfl, hd, hb3, hfd⟩
      have HD := Lib.hid hd
      have HB3 := Lib.hid hb3
      have HFD := Lib.hid hfd
      have p0 : w3.cell? ⟨w.heap.size, 0, none⟩ = some (Value.bool a) := by rw [hb3.cell (by simp; exact hz1)]; exact (World.cell?_setCell_other _ _ _ _ (addr_ne (.inr (by decide)))).trans q0
      have t0 : w3.cell? ⟨w.heap.size + 1, 0, none⟩ = some (Value.bool false) := by rw [hb3.cell (by simp; exact hz2), cell_set_other (by simp)]; exact r0
      have p1 : w3.cell? ⟨w.heap.size, 1, none⟩ = some (Value.bool b) := by rw [hb3.cell (by simp; exact hz1)]; exact (World.cell?_setCell_other _ _ _ _ (addr_ne (.inr (by decide)))).trans q1
      have t1 : w3.cell? ⟨w.heap.size + 1, 1, none⟩ = some (Value.bool false) := by rw [hb3.cell (by simp; exact hz2), cell_set_other (by simp)]; exact r1
      have p2 : w3.cell? ⟨w.heap.size, 2, none⟩ = some (Value.bool c) := by rw [hb3.cell (by simp; exact hz1)]; exact (World.cell?_setCell_other _ _ _ _ (addr_ne (.inr (by decide)))).trans q2
      have t2 : w3.cell? ⟨w.heap.size + 1, 2, none⟩ = some (Value.bool false) := by rw [hb3.cell (by simp; exact hz2), cell_set_other (by simp)]; exact r2
      have p3 : w3.cell? ⟨w.heap.size, 3, none⟩ = some (Value.bool d) := by rw [hb3.cell (by simp; exact hz1)]; exact (World.cell?_setCell_other _ _ _ _ (addr_ne (.inr (by decide)))).trans q3
      have t3 : w3.cell? ⟨w.heap.size + 1, 3, none⟩ = some (Value.bool false) := by rw [hb3.cell (by simp; exact hz2), cell_set_other (by simp)]; exact r3
      have p4 : w3.cell? ⟨w.heap.size, 4, none⟩ = some (Value.bool e) := by rw [hb3.cell (by simp; exact hz1)]; exact (World.cell?_setCell_other _ _ _ _ (addr_ne (.inr (by decide)))).trans q4
      have t4 : w3.cell? ⟨w.heap.size + 1, 4, none⟩ = some (Value.bool false) := by rw [hb3.cell (by simp; exact hz2), cell_set_other (by simp)]; exact r4
      have p5 : w3.cell? ⟨w.heap.size, 5, none⟩ = some (Value.bool f) := by rw [hb3.cell (by simp; exact hz1)]; exact (World.cell?_setCell_other _ _ _ _ (addr_ne (.inr (by decide)))).trans q5
      have t5 : w3.cell? ⟨w.heap.size + 1, 5, none⟩ = some (Value.bool false) := by rw [hb3.cell (by simp; exact hz2), cell_set_other (by simp)]; exact r5
      have p6 : w3.cell? ⟨w.heap.size, 6, none⟩ = some (Value.slice A2 (m + 1) c2) := by rw [hb3.cell (by simp; exact hz1)]; exact World.cell?_setCell_same _ _ _ q6
      have t6 : w3.cell? ⟨w.heap.size + 1, 6, none⟩ = some (Value.slice none 0 0) := by rw [hb3.cell (by simp; exact hz2), cell_set_other (by simp)]; exact r6
      have p7 : w3.cell? ⟨w.heap.size, 7, none⟩ = some (Value.int .i64 s.len) := by rw [hb3.cell (by simp; exact hz1)]; exact (World.cell?_setCell_other _ _ _ _ (addr_ne (.inr (by decide)))).trans q7
      have t7 : w3.cell? ⟨w.heap.size + 1, 7, none⟩ = some (Value.int .i64 0) := by rw [hb3.cell (by simp; exact hz2), cell_set_other (by simp)]; exact r7
      have p8 : w3.cell? ⟨w.heap.size, 8, none⟩ = some (Value.bool s.closed) := by rw [hb3.cell (by simp; exact hz1)]; exact (World.cell?_setCell_other _ _ _ _ (addr_ne (.inr (by decide)))).trans q8
      have t8 : w3.cell? ⟨w.heap.size + 1, 8, none⟩ = some (Value.bool false) := by rw [hb3.cell (by simp; exact hz2), cell_set_other (by simp)]; exact r8
      have p9 : w3.cell? ⟨w.heap.size, 9, none⟩ = some (Value.int .i64 s.frames) := by rw [hb3.cell (by simp; exact hz1)]; exact (World.cell?_setCell_other _ _ _ _ (addr_ne (.inr (by decide)))).trans q9
      have t9 : w3.cell? ⟨w.heap.size + 1, 9, none⟩ = some (Value.int .i64 0) := by rw [hb3.cell (by simp; exact hz2), cell_set_other (by simp)]; exact r9
      have pf : ∀ j : Nat, w3.frozen? ⟨w.heap.size, j, none⟩ = false := fun j => by rw [hb3.frozen (by simp; exact hz1), World.frozen?_setCell]; exact qf j
      have tf : ∀ j : Nat, w3.frozen? ⟨w.heap.size + 1, j, none⟩ = false := fun j => by rw [hb3.frozen (by simp; exact hz2), World.frozen?_setCell]; exact rf j
      have hz3 : w.heap.size < w3.heap.size := by have := hb3.size; simp at this; omega
      have hz4 : w.heap.size + 1 < w3.heap.size := by have := hb3.size; simp at this; omega
      clear q0 q1 q2 q3 q4 q5 q6 q7 q8 q9 r0 r1 r2 r3 r4 r5 r6 r7 r8 r9 qf rf
      clear hz1 hz2 hd hb3 hfd
      have hz1 := hz3
      have hz2 := hz4
      clear hz3 hz4
      have px0 : ∀ (o : Obj), (w3.alloc o).cell? ⟨w.heap.size, 0, none⟩ = _ := fun o => (World.cell?_alloc_past _ _ _ hz1).trans (p0)
      have px1 : ∀ (o : Obj), (w3.alloc o).cell? ⟨w.heap.size, 1, none⟩ = _ := fun o => (World.cell?_alloc_past _ _ _ hz1).trans (p1)
      have px2 : ∀ (o : Obj), (w3.alloc o).cell? ⟨w.heap.size, 2, none⟩ = _ := fun o => (World.cell?_alloc_past _ _ _ hz1).trans (p2)
      have px3 : ∀ (o : Obj), (w3.alloc o).cell? ⟨w.heap.size, 3, none⟩ = _ := fun o => (World.cell?_alloc_past _ _ _ hz1).trans (p3)
      have px4 : ∀ (o : Obj), (w3.alloc o).cell? ⟨w.heap.size, 4, none⟩ = _ := fun o => (World.cell?_alloc_past _ _ _ hz1).trans (p4)
      have px5 : ∀ (o : Obj), (w3.alloc o).cell? ⟨w.heap.size, 5, none⟩ = _ := fun o => (World.cell?_alloc_past _ _ _ hz1).trans (p5)
      have px6 : ∀ (o : Obj), (w3.alloc o).cell? ⟨w.heap.size, 6, none⟩ = _ := fun o => (World.cell?_alloc_past _ _ _ hz1).trans (p6)
      have px7 : ∀ (o : Obj), (w3.alloc o).cell? ⟨w.heap.size, 7, none⟩ = _ := fun o => (World.cell?_alloc_past _ _ _ hz1).trans (p7)
      have px8 : ∀ (o : Obj), (w3.alloc o).cell? ⟨w.heap.size, 8, none⟩ = _ := fun o => (World.cell?_alloc_past _ _ _ hz1).trans (p8)
      have px9 : ∀ (o : Obj), (w3.alloc o).cell? ⟨w.heap.size, 9, none⟩ = _ := fun o => (World.cell?_alloc_past _ _ _ hz1).trans (p9)
      have pxf : ∀ (o : Obj) (j : Nat), (w3.alloc o).frozen? ⟨w.heap.size, j, none⟩ = false := fun o j => (World.frozen?_alloc_past _ _ _ hz1).trans (pf  j)
      have tx0 : ∀ (o : Obj), (w3.alloc o).cell? ⟨w.heap.size + 1, 0, none⟩ = _ := fun o => (World.cell?_alloc_past _ _ _ hz2).trans (t0)
      have tx1 : ∀ (o : Obj), (w3.alloc o).cell? ⟨w.heap.size + 1, 1, none⟩ = _ := fun o => (World.cell?_alloc_past _ _ _ hz2).trans (t1)
      have tx2 : ∀ (o : Obj), (w3.alloc o).cell? ⟨w.heap.size + 1, 2, none⟩ = _ := fun o => (World.cell?_alloc_past _ _ _ hz2).trans (t2)
      have tx3 : ∀ (o : Obj), (w3.alloc o).cell? ⟨w.heap.size + 1, 3, none⟩ = _ := fun o => (World.cell?_alloc_past _ _ _ hz2).trans (t3)
      have tx4 : ∀ (o : Obj), (w3.alloc o).cell? ⟨w.heap.size + 1, 4, none⟩ = _ := fun o => (World.cell?_alloc_past _ _ _ hz2).trans (t4)
      have tx5 : ∀ (o : Obj), (w3.alloc o).cell? ⟨w.heap.size + 1, 5, none⟩ = _ := fun o => (World.cell?_alloc_past _ _ _ hz2).trans (t5)
      have tx6 : ∀ (o : Obj), (w3.alloc o).cell? ⟨w.heap.size + 1, 6, none⟩ = _ := fun o => (World.cell?_alloc_past _ _ _ hz2).trans (t6)
      have tx7 : ∀ (o : Obj), (w3.alloc o).cell? ⟨w.heap.size + 1, 7, none⟩ = _ := fun o => (World.cell?_alloc_past _ _ _ hz2).trans (t7)
      have tx8 : ∀ (o : Obj), (w3.alloc o).cell? ⟨w.heap.size + 1, 8, none⟩ = _ := fun o => (World.cell?_alloc_past _ _ _ hz2).trans (t8)
      have tx9 : ∀ (o : Obj), (w3.alloc o).cell? ⟨w.heap.size + 1, 9, none⟩ = _ := fun o => (World.cell?_alloc_past _ _ _ hz2).trans (t9)
      have txf : ∀ (o : Obj) (j : Nat), (w3.alloc o).frozen? ⟨w.heap.size + 1, j, none⟩ = false := fun o j => (World.frozen?_alloc_past _ _ _ hz2).trans (tf  j)
      by_cases hv : H.va = 0
      · have hv' : (H.va != 0) = false := by simp [hv]
        have HV := Lib.hid hv
        clear hv
        have hc19 : ¬ ((19 : Int) ≤ (m : Int) + 1) := by omega
        go_wp2_with fail
        refine bodyPost_ret (v := .tuple #[.agg #[.bool a, .bool b, .bool c, .bool d, .bool e, .bool f, .slice A2 (m + 1) c2, .int .i64 H.n, .bool s.closed, .int .i64 s.frames], .slice none 0 0]) (by simp [results, Try.results57, go_sem, *]) rfl ?_
        have CHB := (show Ch w.heap.size (some (w.heap.size + 1)) w2 w3 from ((Ch.refl _ _ _).set _ _).below HB3.out)
        rw [show OS = _ from HOS.out.trans (one_k HKS.out HH.out HLK.out HV.out (by rw [HL'.out]; omega))]
        refine one_end0 HBB.out ?_ HRK.out HF2.out
        (repeat (first | with_reducible exact Ch.refl _ _ _ | with_reducible refine Ch.drew ?_ | with_reducible refine Ch.set ?_ _ _ | with_reducible refine Ch.setK ?_ _ _ | with_reducible refine Ch.alloc ?_ _ | with_reducible exact CHB | with_reducible exact CHB.out | exact CHB))
      · have hv' : (H.va != 0) = true := by simp [hv]
        have HV := Lib.hid hv
        clear hv
        go_wp2_with fail
        go_region
        all_goals go_wp2_with fail
        all_goals refine bodyPost_ret (v := .tuple #[.agg #[.bool a, .bool b, .bool c, .bool d, .bool e, .bool f, .slice none 0 0, .int .i64 s.len, .bool true, .int .i64 s.frames], .slice (some ⟨w3.heap.size + 1, 0, none⟩) 1 1]) (by simp [results, Try.results57, go_sem, *]) rfl ?_
        have CHB := Lib.hid (show Ch w.heap.size (some (w.heap.size + 1)) w2 w3 from ((Ch.refl _ _ _).set _ _).below HB3.out)
        have HZ3 := HB3.out.size
        simp at HZ3
        rw [show OS = _ from HOS.out.trans (one_v HKS.out HH.out HLK.out HV.out)]
        refine one_endE (w2 := w3) (one_bel HBB.out CHB.out) (by have := HZZ.out; omega) ?_ ⟨none, 0, 0, D, H.ds.length, cp, rfl, rfl, rfl, RdB.nil _ _ _ ⟨by omega, fun _ => rfl⟩, fun h => absurd h (by omega), HD.out, fun hp y hy => ?_⟩ (by simp)
        · (repeat (first | with_reducible exact Ch.refl _ _ _ | with_reducible refine Ch.drew ?_ | with_reducible refine Ch.set ?_ _ _ | with_reducible refine Ch.setK ?_ _ _ | with_reducible refine Ch.alloc ?_ _ | with_reducible exact CHB | with_reducible exact CHB.out | exact CHB))
        · have := HFD.out hp y hy; simp at this; have := HZZ.out; omega
    · go_wp2_with fail
      refine (HPS.out _ (HRS.out _)).mono ?_
      rintro r w3 ⟨D, cp, rfl, hd, hb3, hfd⟩
      have HD := Lib.hid hd
      have HB3 := Lib.hid hb3
      have HFD := Lib.hid hfd
      have p0 : w3.cell? ⟨w.heap.size, 0, none⟩ = some (Value.bool a) := by rw [hb3.cell (by simp; exact hz1)]; exact (World.cell?_setCell_other _ _ _ _ (addr_ne (.inr (by decide)))).trans q0
      have t0 : w3.cell? ⟨w.heap.size + 1, 0, none⟩ = some (Value.bool false) := by rw [hb3.cell (by simp; exact hz2), cell_set_other (by simp)]; exact r0
      have p1 : w3.cell? ⟨w.heap.size, 1, none⟩ = some (Value.bool b) := by rw [hb3.cell (by simp; exact hz1)]; exact (World.cell?_setCell_other _ _ _ _ (addr_ne (.inr (by decide)))).trans q1
      have t1 : w3.cell? ⟨w.heap.size + 1, 1, none⟩ = some (Value.bool false) := by rw [hb3.cell (by simp; exact hz2), cell_set_other (by simp)]; exact r1
      have p2 : w3.cell? ⟨w.heap.size, 2, none⟩ = some (Value.bool c) := by rw [hb3.cell (by simp; exact hz1)]; exact (World.cell?_setCell_other _ _ _ _ (addr_ne (.inr (by decide)))).trans q2
      have t2 : w3.cell? ⟨w.heap.size + 1, 2, none⟩ = some (Value.bool false) := by rw [hb3.cell (by simp; exact hz2), cell_set_other (by simp)]; exact r2
      have p3 : w3.cell? ⟨w.heap.size, 3, none⟩ = some (Value.bool d) := by rw [hb3.cell (by simp; exact hz1)]; exact (World.cell?_setCell_other _ _ _ _ (addr_ne (.inr (by decide)))).trans q3
      have t3 : w3.cell? ⟨w.heap.size + 1, 3, none⟩ = some (Value.bool false) := by rw [hb3.cell (by simp; exact hz2), cell_set_other (by simp)]; exact r3
      have p4 : w3.cell? ⟨w.heap.size, 4, none⟩ = some (Value.bool e) := by rw [hb3.cell (by simp; exact hz1)]; exact (World.cell?_setCell_other _ _ _ _ (addr_ne (.inr (by decide)))).trans q4
      have t4 : w3.cell? ⟨w.heap.size + 1, 4, none⟩ = some (Value.bool false) := by rw [hb3.cell (by simp; exact hz2), cell_set_other (by simp)]; exact r4
      have p5 : w3.cell? ⟨w.heap.size, 5, none⟩ = some (Value.bool f) := by rw [hb3.cell (by simp; exact hz1)]; exact (World.cell?_setCell_other _ _ _ _ (addr_ne (.inr (by decide)))).trans q5
      have t5 : w3.cell? ⟨w.heap.size + 1, 5, none⟩ = some (Value.bool false) := by rw [hb3.cell (by simp; exact hz2), cell_set_other (by simp)]; exact r5
      have p6 : w3.cell? ⟨w.heap.size, 6, none⟩ = some (Value.slice A2 (m + 1) c2) := by rw [hb3.cell (by simp; exact hz1)]; exact World.cell?_setCell_same _ _ _ q6
      have t6 : w3.cell? ⟨w.heap.size + 1, 6, none⟩ = some (Value.slice none 0 0) := by rw [hb3.cell (by simp; exact hz2), cell_set_other (by simp)]; exact r6
      have p7 : w3.cell? ⟨w.heap.size, 7, none⟩ = some (Value.int .i64 s.len) := by rw [hb3.cell (by simp; exact hz1)]; exact (World.cell?_setCell_other _ _ _ _ (addr_ne (.inr (by decide)))).trans q7
      have t7 : w3.cell? ⟨w.heap.size + 1, 7, none⟩ = some (Value.int .i64 0) := by rw [hb3.cell (by simp; exact hz2), cell_set_other (by simp)]; exact r7
      have p8 : w3.cell? ⟨w.heap.size, 8, none⟩ = some (Value.bool s.closed) := by rw [hb3.cell (by simp; exact hz1)]; exact (World.cell?_setCell_other _ _ _ _ (addr_ne (.inr (by decide)))).trans q8
      have t8 : w3.cell? ⟨w.heap.size + 1, 8, none⟩ = some (Value.bool false) := by rw [hb3.cell (by simp; exact hz2), cell_set_other (by simp)]; exact r8
      have p9 : w3.cell? ⟨w.heap.size, 9, none⟩ = some (Value.int .i64 s.frames) := by rw [hb3.cell (by simp; exact hz1)]; exact (World.cell?_setCell_other _ _ _ _ (addr_ne (.inr (by decide)))).trans q9
      have t9 : w3.cell? ⟨w.heap.size + 1, 9, none⟩ = some (Value.int .i64 0) := by rw [hb3.cell (by simp; exact hz2), cell_set_other (by simp)]; exact r9
      have pf : ∀ j : Nat, w3.frozen? ⟨w.heap.size, j, none⟩ = false := fun j => by rw [hb3.frozen (by simp; exact hz1), World.frozen?_setCell]; exact qf j
      have tf : ∀ j : Nat, w3.frozen? ⟨w.heap.size + 1, j, none⟩ = false := fun j => by rw [hb3.frozen (by simp; exact hz2), World.frozen?_setCell]; exact rf j
      have hz3 : w.heap.size < w3.heap.size := by have := hb3.size; simp at this; omega
      have hz4 : w.heap.size + 1 < w3.heap.size := by have := hb3.size; simp at this; omega
      clear q0 q1 q2 q3 q4 q5 q6 q7 q8 q9 r0 r1 r2 r3 r4 r5 r6 r7 r8 r9 qf rf
      clear hz1 hz2 hd hb3 hfd
      have hz1 := hz3
      have hz2 := hz4
      clear hz3 hz4
      have px0 : ∀ (o : Obj), (w3.alloc o).cell? ⟨w.heap.size, 0, none⟩ = _ := fun o => (World.cell?_alloc_past _ _ _ hz1).trans (p0)
      have px1 : ∀ (o : Obj), (w3.alloc o).cell? ⟨w.heap.size, 1, none⟩ = _ := fun o => (World.cell?_alloc_past _ _ _ hz1).trans (p1)
      have px2 : ∀ (o : Obj), (w3.alloc o).cell? ⟨w.heap.size, 2, none⟩ = _ := fun o => (World.cell?_alloc_past _ _ _ hz1).trans (p2)
      have px3 : ∀ (o : Obj), (w3.alloc o).cell? ⟨w.heap.size, 3, none⟩ = _ := fun o => (World.cell?_alloc_past _ _ _ hz1).trans (p3)
      have px4 : ∀ (o : Obj), (w3.alloc o).cell? ⟨w.heap.size, 4, none⟩ = _ := fun o => (World.cell?_alloc_past _ _ _ hz1).trans (p4)
      have px5 : ∀ (o : Obj), (w3.alloc o).cell? ⟨w.heap.size, 5, none⟩ = _ := fun o => (World.cell?_alloc_past _ _ _ hz1).trans (p5)
      have px6 : ∀ (o : Obj), (w3.alloc o).cell? ⟨w.heap.size, 6, none⟩ = _ := fun o => (World.cell?_alloc_past _ _ _ hz1).trans (p6)
      have px7 : ∀ (o : Obj), (w3.alloc o).cell? ⟨w.heap.size, 7, none⟩ = _ := fun o => (World.cell?_alloc_past _ _ _ hz1).trans (p7)
      have px8 : ∀ (o : Obj), (w3.alloc o).cell? ⟨w.heap.size, 8, none⟩ = _ := fun o => (World.cell?_alloc_past _ _ _ hz1).trans (p8)
      have px9 : ∀ (o : Obj), (w3.alloc o).cell? ⟨w.heap.size, 9, none⟩ = _ := fun o => (World.cell?_alloc_past _ _ _ hz1).trans (p9)
      have pxf : ∀ (o : Obj) (j : Nat), (w3.alloc o).frozen? ⟨w.heap.size, j, none⟩ = false := fun o j => (World.frozen?_alloc_past _ _ _ hz1).trans (pf  j)
      have tx0 : ∀ (o : Obj), (w3.alloc o).cell? ⟨w.heap.size + 1, 0, none⟩ = _ := fun o => (World.cell?_alloc_past _ _ _ hz2).trans (t0)
      have tx1 : ∀ (o : Obj), (w3.alloc o).cell? ⟨w.heap.size + 1, 1, none⟩ = _ := fun o => (World.cell?_alloc_past _ _ _ hz2).trans (t1)
      have tx2 : ∀ (o : Obj), (w3.alloc o).cell? ⟨w.heap.size + 1, 2, none⟩ = _ := fun o => (World.cell?_alloc_past _ _ _ hz2).trans (t2)
      have tx3 : ∀ (o : Obj), (w3.alloc o).cell? ⟨w.heap.size + 1, 3, none⟩ = _ := fun o => (World.cell?_alloc_past _ _ _ hz2).trans (t3)
      have tx4 : ∀ (o : Obj), (w3.alloc o).cell? ⟨w.heap.size + 1, 4, none⟩ = _ := fun o => (World.cell?_alloc_past _ _ _ hz2).trans (t4)
      have tx5 : ∀ (o : Obj), (w3.alloc o).cell? ⟨w.heap.size + 1, 5, none⟩ = _ := fun o => (World.cell?_alloc_past _ _ _ hz2).trans (t5)
      have tx6 : ∀ (o : Obj), (w3.alloc o).cell? ⟨w.heap.size + 1, 6, none⟩ = _ := fun o => (World.cell?_alloc_past _ _ _ hz2).trans (t6)
      have tx7 : ∀ (o : Obj), (w3.alloc o).cell? ⟨w.heap.size + 1, 7, none⟩ = _ := fun o => (World.cell?_alloc_past _ _ _ hz2).trans (t7)
      have tx8 : ∀ (o : Obj), (w3.alloc o).cell? ⟨w.heap.size + 1, 8, none⟩ = _ := fun o => (World.cell?_alloc_past _ _ _ hz2).trans (t8)
      have tx9 : ∀ (o : Obj), (w3.alloc o).cell? ⟨w.heap.size + 1, 9, none⟩ = _ := fun o => (World.cell?_alloc_past _ _ _ hz2).trans (t9)
      have txf : ∀ (o : Obj) (j : Nat), (w3.alloc o).frozen? ⟨w.heap.size + 1, j, none⟩ = false := fun o j => (World.frozen?_alloc_past _ _ _ hz2).trans (tf  j)
      by_cases hv : H.va = 0
      · have hv' : (H.va != 0) = false := by simp [hv]
        have HV := Lib.hid hv
        clear hv
        have hc19 : (19 : Int) ≤ (m : Int) + 1 := by have := eq_of_beq g2; omega
        by_cases he : (m : Int) + 1 = H.n
        · have he' : ((m : Int) + 1 == H.n) = true := by simp [he]
          have HE := Lib.hid he
          clear he
          have hza1 : w.heap.size < w3.heap.size + 1 := by omega
          have hza2 : w.heap.size + 1 < w3.heap.size + 1 := by omega
          have hza3 : w.heap.size < w3.heap.size + 2 := by omega
          have hza4 : w.heap.size + 1 < w3.heap.size + 2 := by omega
          have hza5 : w.heap.size < w3.heap.size + 1 + 1 := by omega
          have hza6 : w.heap.size + 1 < w3.heap.size + 1 + 1 := by omega
          go_wp2_with fail
          go_region
          all_goals go_wp2_with fail
          all_goals refine bodyPost_ret (v := .tuple #[.agg #[.bool a, .bool b, .bool c, .bool d, .bool e, .bool f, .slice none 0 0, .int .i64 H.n, .bool s.closed, .int .i64 (wrap64 (s.frames + 1))], .slice (some ⟨w3.heap.size + 1 + 1, 0, none⟩) 1 1]) (by simp [results, Try.results57, go_sem, *]) rfl ?_
          have CHB := (show Ch w.heap.size (some (w.heap.size + 1)) w2 w3 from ((Ch.refl _ _ _).set _ _).below HB3.out)
          rw [show OS = _ from HOS.out.trans (one_c HKS.out HH.out HLK.out HV.out (by rw [HL'.out]; exact ⟨by omega, by have := HE.out; omega⟩))]
          rw [HWF.out]
          refine one_endE (w2 := w2) HBB.out HZZ.out ?_ ⟨A2, m + 1, c2, none, 0, 0, rfl, HL'.out.symm, rfl, HRK.out, HF2.out, RdB.nil _ _ _ ⟨by omega, fun _ => rfl⟩, fun h => absurd h (by omega)⟩ (by simp)
          (repeat (first | with_reducible exact Ch.refl _ _ _ | with_reducible refine Ch.drew ?_ | with_reducible refine Ch.set ?_ _ _ | with_reducible refine Ch.setK ?_ _ _ | with_reducible refine Ch.alloc ?_ _ | with_reducible exact CHB | with_reducible exact CHB.out | exact CHB))
        · have he' : ((m : Int) + 1 == H.n) = false := by simp [he]
          have HE := Lib.hid he
          clear he
          go_wp2_with fail
          refine bodyPost_ret (v := .tuple #[.agg #[.bool a, .bool b, .bool c, .bool d, .bool e, .bool f, .slice A2 (m + 1) c2, .int .i64 H.n, .bool s.closed, .int .i64 s.frames], .slice none 0 0]) (by simp [results, Try.results57, go_sem, *]) rfl ?_
          have CHB := (show Ch w.heap.size (some (w.heap.size + 1)) w2 w3 from ((Ch.refl _ _ _).set _ _).below HB3.out)
          rw [show OS = _ from HOS.out.trans (one_k HKS.out HH.out HLK.out HV.out (by rw [HL'.out]; have := HE.out; omega))]
          refine one_end0 HBB.out ?_ HRK.out HF2.out
          (repeat (first | with_reducible exact Ch.refl _ _ _ | with_reducible refine Ch.drew ?_ | with_reducible refine Ch.set ?_ _ _ | with_reducible refine Ch.setK ?_ _ _ | with_reducible refine Ch.alloc ?_ _ | with_reducible exact CHB | with_reducible exact CHB.out | exact CHB))
      · have hv' : (H.va != 0) = true := by simp [hv]
        have HV := Lib.hid hv
        clear hv
        go_wp2_with fail
        go_region
        all_goals go_wp2_with fail
        all_goals refine bodyPost_ret (v := .tuple #[.agg #[.bool a, .bool b, .bool c, .bool d, .bool e, .bool f, .slice none 0 0, .int .i64 s.len, .bool true, .int .i64 s.frames], .slice (some ⟨w3.heap.size + 1, 0, none⟩) 1 1]) (by simp [results, Try.results57, go_sem, *]) rfl ?_
        have CHB := Lib.hid (show Ch w.heap.size (some (w.heap.size + 1)) w2 w3 from ((Ch.refl _ _ _).set _ _).below HB3.out)
        have HZ3 := HB3.out.size
        simp at HZ3
        rw [show OS = _ from HOS.out.trans (one_v HKS.out HH.out HLK.out HV.out)]
        refine one_endE (w2 := w3) (one_bel HBB.out CHB.out) (by have := HZZ.out; omega) ?_ ⟨none, 0, 0, D, H.ds.length, cp, rfl, rfl, rfl, RdB.nil _ _ _ ⟨by omega, fun _ => rfl⟩, fun h => absurd h (by omega), HD.out, fun hp y hy => ?_⟩ (by simp)
        · (repeat (first | with_reducible exact Ch.refl _ _ _ | with_reducible refine Ch.drew ?_ | with_reducible refine Ch.set ?_ _ _ | with_reducible refine Ch.setK ?_ _ _ | with_reducible refine Ch.alloc ?_ _ | with_reducible exact CHB | with_reducible exact CHB.out | exact CHB))
        · have := HFD.out hp y hy; simp at this; have := HZZ.out; omega
  · have hlk : (m + 1 ≤ 16 ∧ x = 255) ∨ (¬ m + 1 ≤ 16 ∧ ¬ m + 1 = 19) := by
      have := HL'.out
      have h2 := hlook
      unfold looks at h2
      rw [this] at h2
      simp only [Bool.or_eq_true, Bool.and_eq_true, decide_eq_true_eq] at h2
      omega
    have HLK := Lib.hid hlook
    clear hlook
    have hn19 : ((m : Int) + 1 == 19) = false := by simp; omega
    have qx0 : ∀ (o : Obj), (w2.alloc o).cell? ⟨w.heap.size, 0, none⟩ = _ := fun o => (World.cell?_alloc_past _ _ _ hz1).trans (q0)
    have qx1 : ∀ (o : Obj), (w2.alloc o).cell? ⟨w.heap.size, 1, none⟩ = _ := fun o => (World.cell?_alloc_past _ _ _ hz1).trans (q1)
    have qx2 : ∀ (o : Obj), (w2.alloc o).cell? ⟨w.heap.size, 2, none⟩ = _ := fun o => (World.cell?_alloc_past _ _ _ hz1).trans (q2)
    have qx3 : ∀ (o : Obj), (w2.alloc o).cell? ⟨w.heap.size, 3, none⟩ = _ := fun o => (World.cell?_alloc_past _ _ _ hz1).trans (q3)
    have qx4 : ∀ (o : Obj), (w2.alloc o).cell? ⟨w.heap.size, 4, none⟩ = _ := fun o => (World.cell?_alloc_past _ _ _ hz1).trans (q4)
    have qx5 : ∀ (o : Obj), (w2.alloc o).cell? ⟨w.heap.size, 5, none⟩ = _ := fun o => (World.cell?_alloc_past _ _ _ hz1).trans (q5)
    have qx6 : ∀ (o : Obj), (w2.alloc o).cell? ⟨w.heap.size, 6, none⟩ = _ := fun o => (World.cell?_alloc_past _ _ _ hz1).trans (q6)
    have qx7 : ∀ (o : Obj), (w2.alloc o).cell? ⟨w.heap.size, 7, none⟩ = _ := fun o => (World.cell?_alloc_past _ _ _ hz1).trans (q7)
    have qx8 : ∀ (o : Obj), (w2.alloc o).cell? ⟨w.heap.size, 8, none⟩ = _ := fun o => (World.cell?_alloc_past _ _ _ hz1).trans (q8)
    have qx9 : ∀ (o : Obj), (w2.alloc o).cell? ⟨w.heap.size, 9, none⟩ = _ := fun o => (World.cell?_alloc_past _ _ _ hz1).trans (q9)
    have qxf : ∀ (o : Obj) (j : Nat), (w2.alloc o).frozen? ⟨w.heap.size, j, none⟩ = false := fun o j => (World.frozen?_alloc_past _ _ _ hz1).trans (qf  j)
    have rx0 : ∀ (o : Obj), (w2.alloc o).cell? ⟨w.heap.size + 1, 0, none⟩ = _ := fun o => (World.cell?_alloc_past _ _ _ hz2).trans (r0)
    have rx1 : ∀ (o : Obj), (w2.alloc o).cell? ⟨w.heap.size + 1, 1, none⟩ = _ := fun o => (World.cell?_alloc_past _ _ _ hz2).trans (r1)
    have rx2 : ∀ (o : Obj), (w2.alloc o).cell? ⟨w.heap.size + 1, 2, none⟩ = _ := fun o => (World.cell?_alloc_past _ _ _ hz2).trans (r2)
    have rx3 : ∀ (o : Obj), (w2.alloc o).cell? ⟨w.heap.size + 1, 3, none⟩ = _ := fun o => (World.cell?_alloc_past _ _ _ hz2).trans (r3)
    have rx4 : ∀ (o : Obj), (w2.alloc o).cell? ⟨w.heap.size + 1, 4, none⟩ = _ := fun o => (World.cell?_alloc_past _ _ _ hz2).trans (r4)
    have rx5 : ∀ (o : Obj), (w2.alloc o).cell? ⟨w.heap.size + 1, 5, none⟩ = _ := fun o => (World.cell?_alloc_past _ _ _ hz2).trans (r5)
    have rx6 : ∀ (o : Obj), (w2.alloc o).cell? ⟨w.heap.size + 1, 6, none⟩ = _ := fun o => (World.cell?_alloc_past _ _ _ hz2).trans (r6)
    have rx7 : ∀ (o : Obj), (w2.alloc o).cell? ⟨w.heap.size + 1, 7, none⟩ = _ := fun o => (World.cell?_alloc_past _ _ _ hz2).trans (r7)
    have rx8 : ∀ (o : Obj), (w2.alloc o).cell? ⟨w.heap.size + 1, 8, none⟩ = _ := fun o => (World.cell?_alloc_past _ _ _ hz2).trans (r8)
    have rx9 : ∀ (o : Obj), (w2.alloc o).cell? ⟨w.heap.size + 1, 9, none⟩ = _ := fun o => (World.cell?_alloc_past _ _ _ hz2).trans (r9)
    have rxf : ∀ (o : Obj) (j : Nat), (w2.alloc o).frozen? ⟨w.heap.size + 1, j, none⟩ = false := fun o j => (World.frozen?_alloc_past _ _ _ hz2).trans (rf  j)
    rcases hlk with ⟨h16, hx⟩ | ⟨h16, h19⟩
    · have g1 : (m : Int) + 1 ≤ 16 := by omega
      have g2 : (x != 255) = false := by simp [hx]
      have hg19 : ¬ (19 : Int) ≤ m + 1 := by omega
      clear hx h16
      go_wp2_with fail
      refine bodyPost_ret (v := .tuple #[.agg #[.bool a, .bool b, .bool c, .bool d, .bool e, .bool f, .slice A2 (m + 1) c2, .int .i64 s.len, .bool s.closed, .int .i64 s.frames], .slice none 0 0]) (by simp [results, Try.results57, go_sem, *]) rfl ?_
      rw [show OS = _ from HOS.out.trans (one_k' HKS.out HLK.out (by rw [HL'.out]; omega))]
      have CHB := Ch.refl w.heap.size (some (w.heap.size + 1)) w2
      refine one_end0 HBB.out ?_ HRK.out HF2.out
      (repeat (first | with_reducible exact Ch.refl _ _ _ | with_reducible refine Ch.drew ?_ | with_reducible refine Ch.set ?_ _ _ | with_reducible refine Ch.setK ?_ _ _ | with_reducible refine Ch.alloc ?_ _ | with_reducible exact CHB | with_reducible exact CHB.out | exact CHB))
    · have g1 : ¬ (m : Int) + 1 ≤ 16 := by omega
      by_cases hc : (19 : Int) ≤ m + 1
      · by_cases he : (m : Int) + 1 = s.len
        · have he' : ((m : Int) + 1 == s.len) = true := by simp [he]
          have HE := Lib.hid he
          have HH19 := Lib.hid h19
          clear he h19 h16
          have hza1 : w.heap.size < w2.heap.size + 1 := by omega
          have hza2 : w.heap.size + 1 < w2.heap.size + 1 := by omega
          go_wp2_with fail
          go_region
          all_goals go_wp2_with fail
          all_goals refine bodyPost_ret (v := .tuple #[.agg #[.bool a, .bool b, .bool c, .bool d, .bool e, .bool f, .slice none 0 0, .int .i64 s.len, .bool s.closed, .int .i64 (wrap64 (s.frames + 1))], .slice (some ⟨w2.heap.size + 1, 0, none⟩) 1 1]) (by simp [results, Try.results57, go_sem, *]) rfl ?_
          rw [show OS = _ from HOS.out.trans (one_c' HKS.out HLK.out (by rw [HL'.out]; exact ⟨by omega, by have := HE.out; omega⟩))]
          rw [HWF.out]
          have CHB := Ch.refl w.heap.size (some (w.heap.size + 1)) w2
          refine one_endE (w2 := w2) HBB.out HZZ.out ?_ ⟨A2, m + 1, c2, none, 0, 0, rfl, HL'.out.symm, rfl, HRK.out, HF2.out, RdB.nil _ _ _ ⟨by omega, fun _ => rfl⟩, fun h => absurd h (by omega)⟩ (by simp)
          (repeat (first | with_reducible exact Ch.refl _ _ _ | with_reducible refine Ch.drew ?_ | with_reducible refine Ch.set ?_ _ _ | with_reducible refine Ch.setK ?_ _ _ | with_reducible refine Ch.alloc ?_ _ | with_reducible exact CHB | with_reducible exact CHB.out | exact CHB))
        · have he' : ((m : Int) + 1 == s.len) = false := by simp [he]
          have HE := Lib.hid he
          have HH19 := Lib.hid h19
          clear he h19 h16
          go_wp2_with fail
          refine bodyPost_ret (v := .tuple #[.agg #[.bool a, .bool b, .bool c, .bool d, .bool e, .bool f, .slice A2 (m + 1) c2, .int .i64 s.len, .bool s.closed, .int .i64 s.frames], .slice none 0 0]) (by simp [results, Try.results57, go_sem, *]) rfl ?_
          rw [show OS = _ from HOS.out.trans (one_k' HKS.out HLK.out (by rw [HL'.out]; have := HE.out; omega))]
          have CHB := Ch.refl w.heap.size (some (w.heap.size + 1)) w2
          refine one_end0 HBB.out ?_ HRK.out HF2.out
          (repeat (first | with_reducible exact Ch.refl _ _ _ | with_reducible refine Ch.drew ?_ | with_reducible refine Ch.set ?_ _ _ | with_reducible refine Ch.setK ?_ _ _ | with_reducible refine Ch.alloc ?_ _ | with_reducible exact CHB | with_reducible exact CHB.out | exact CHB))
      · clear h19 h16
        go_wp2_with fail
        refine bodyPost_ret (v := .tuple #[.agg #[.bool a, .bool b, .bool c, .bool d, .bool e, .bool f, .slice A2 (m + 1) c2, .int .i64 s.len, .bool s.closed, .int .i64 s.frames], .slice none 0 0]) (by simp [results, Try.results57, go_sem, *]) rfl ?_
        rw [show OS = _ from HOS.out.trans (one_k' HKS.out HLK.out (by rw [HL'.out]; omega))]
        have CHB := Ch.refl w.heap.size (some (w.heap.size + 1)) w2
        refine one_end0 HBB.out ?_ HRK.out HF2.out
        (repeat (first | with_reducible exact Ch.refl _ _ _ | with_reducible refine Ch.drew ?_ | with_reducible refine Ch.set ?_ _ _ | with_reducible refine Ch.setK ?_ _ _ | with_reducible refine Ch.alloc ?_ _ | with_reducible exact CHB | with_reducible exact CHB.out | exact CHB))

end Go.Proofs.Ytdiiolbkjmhmdaa
