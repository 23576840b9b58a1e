/- option.Text: the text of options, in whatever memory. -/
import Derived.Test.YtagopeefobefnaaDoorOptA
import Derived.Test.YtagopeefobefnaaDoorShelf
namespace Go.Proofs.YtagopeefobefnaaDoor
open Go.RowKit

/-- The names of the options that are set, among the first k. -/
def picked : List (Bool × ByteArray) → Nat → List ByteArray
  | _, 0 => []
  | [], _ => []
  | p :: r, k + 1 => if p.1 = true then p.2 :: picked r k else picked r k
def flags (a b c d e f : Bool) : List (Bool × ByteArray) := [(a, nm0), (b, nm1), (c, nm2), (d, nm3), (e, nm4), (f, nm5)]
theorem picked_length (l : List (Bool × ByteArray)) (k : Nat) : (picked l k).length ≤ k := by
  induction k generalizing l with
  | zero => cases l <;> simp [picked]
  | succ k ih =>
    cases l with
    | nil => simp [picked]
    | cons p r =>
      have := ih r
      unfold picked
      split <;> simp <;> omega
def TextRel (w1 : World) (a b c d e f : Bool) (k : Nat) (l : Value) (wr : World) : Prop :=
  wr.ownsRow w1.heap.size 9 1 l (picked (flags a b c d e f) k).length ((picked (flags a b c d e f) k).map Value.string) ∧ Below w1.heap.size w1 wr
theorem Tryd.info9 : (Tryd.prog.info? 9).map (fun i => (i.zero, i.size, i.bytes)) = some (some (.string ByteArray.empty), 1, 16) := by kernel_rfl
theorem textrel_no {w1 : World} {a b c d e f : Bool} {k : Nat} {l : Value} {wr : World} (h : TextRel w1 a b c d e f k l wr) (o : Obj) (hs : picked (flags a b c d e f) (k + 1) = picked (flags a b c d e f) k) : TextRel w1 a b c d e f (k + 1) l (wr.alloc o) := by
  obtain ⟨h1, h2⟩ := h
  refine ⟨?_, h2.alloc h2.size _⟩
  rw [hs]; exact h1.alloc _
theorem textrel_yes {w1 : World} {a b c d e f : Bool} {k : Nat} {l l' : Value} {wr w' : World} {x : ByteArray} {o o' : Obj} (h : TextRel w1 a b c d e f k l wr) (hs : picked (flags a b c d e f) (k + 1) = picked (flags a b c d e f) k ++ [x])
    (ho : w'.ownsRow w1.heap.size 9 1 l' ((picked (flags a b c d e f) k).length + 1) ((picked (flags a b c d e f) k).map Value.string ++ [Value.string x])) (hg : ((wr.alloc o).alloc o').grownBy w' l.ownBlock) : TextRel w1 a b c d e f (k + 1) l' w' := by
  obtain ⟨h1, h2⟩ := h
  refine ⟨?_, ?_⟩
  · rw [hs]; simpa using ho
  · have h3 := (h2.alloc h2.size o).alloc (by have := h2.size; simp; omega) o'
    exact h3.grown hg (by have := h2.size; simp; omega) (fun k hk => (h1.lt k hk).1)
theorem picked_step (a b c d e f : Bool) (k : Nat) (hk : k < 6) : picked (flags a b c d e f) (k + 1) = if ((flags a b c d e f)[k]?.map (·.1)) = some true then picked (flags a b c d e f) k ++ [((flags a b c d e f)[k]?.map (·.2)).getD nm0] else picked (flags a b c d e f) k := by
  match k, hk with
  | 0, _ => cases a <;> rfl
  | 1, _ => cases a <;> cases b <;> rfl
  | 2, _ => cases a <;> cases b <;> cases c <;> rfl
  | 3, _ => cases a <;> cases b <;> cases c <;> cases d <;> rfl
  | 4, _ => cases a <;> cases b <;> cases c <;> cases d <;> cases e <;> rfl
  | 5, _ => cases a <;> cases b <;> cases c <;> cases d <;> cases e <;> cases f <;> rfl

/-- The text: a dash, or the names with blanks between them. -/
def text (a b c d e f : Bool) : ByteArray :=
  if (a == false && (b == false && (c == false && (d == false && (e == false && (f == false && true)))))) = true then ⟨#[45]⟩
  else ⟨(Lib.join ((picked (flags a b c d e f) 6).map (·.data.toList)) [32]).toArray⟩

theorem text_dash (a b c d e f : Bool) (w : World) (hne : (a == false && (b == false && (c == false && (d == false && (e == false && (f == false && true)))))) = true) :
    Calls Tryd.prog 12 #[.agg #[.bool a, .bool b, .bool c, .bool d, .bool e, .bool f]] w (RV (.string (text a b c d e f)) w) := by
  have heq : ∀ w, (binOp .eql 25 (.agg #[.bool a, .bool b, .bool c, .bool d, .bool e, .bool f]) (.agg #[.bool false, .bool false, .bool false, .bool false, .bool false, .bool false])).run Tryd.prog w = .ok (.bool true) w := fun w => by rw [eq_opts, hne]
  have HT := Lib.hid (show text a b c d e f = ⟨#[45]⟩ by unfold text; rw [if_pos hne])
  clear hne
  go_enter Tryd.func12, Tryd.ntmps12
  go_wp2_with fail
  go_ret
  exact ⟨by rw [HT.out]; rfl, (Below.refl _ _).alloc (Nat.le_refl _) _⟩

theorem flags_len (a b c d e f : Bool) : (Lib.join ((picked (flags a b c d e f) 6).map (·.data.toList)) [32]).length ≤ 140737488355328 := by
  have h : (Lib.join ((picked (flags a b c d e f) 6).map (·.data.toList)) [32]).length ≤ 200 := by
    cases a <;> cases b <;> cases c <;> cases d <;> cases e <;> cases f <;> decide
  omega

theorem join_any (W : World) (base : Nat) (l : Value) (xs : List ByteArray) (h : W.ownsRow base 9 1 l xs.length (xs.map Value.string)) (hN : xs.length ≤ 6) (hlen : (Lib.join (xs.map (·.data.toList)) [32]).length ≤ 140737488355328) :
    Calls Tryd.prog 25 #[l, .string ⟨#[32]⟩] W (RV (.string ⟨(Lib.join (xs.map (·.data.toList)) [32]).toArray⟩) W) := by
  have h0 := h
  rcases h.2 with ⟨rfl, h1⟩ | ⟨g, cap, cur, rfl, hb, hg, hnc, hcm, hcs, ht⟩
  · obtain rfl : xs = [] := List.eq_nil_of_length_eq_zero h1
    exact (Tryd.strings_Join_none none 0 ⟨#[32]⟩ W).mono fun e w' ⟨he, hw⟩ => ⟨he, hw ▸ Below.refl _ _⟩
  · refine (Tryd.strings_Join g 0 cap xs ⟨#[32]⟩ W (fun j x hj => ?_) (Array.getElem?_eq_some_iff.1 hg).1 (by omega) hnc hlen).mono fun e w' ⟨he, hw⟩ => ⟨he, hw⟩
    have := h0.cells (g := g) rfl j (.string x) (by simp [hj])
    rw [add_plain] at this
    rw [Nat.zero_add]; exact this

set_option maxHeartbeats 1000000 in
set_option maxRecDepth 100000 in
theorem text_some (a b c d e f : Bool) (w : World) (hne : (a == false && (b == false && (c == false && (d == false && (e == false && (f == false && true)))))) = false) :
    Calls Tryd.prog 12 #[.agg #[.bool a, .bool b, .bool c, .bool d, .bool e, .bool f]] w (RV (.string (text a b c d e f)) w) := by
  have heq : ∀ w, (binOp .eql 25 (.agg #[.bool a, .bool b, .bool c, .bool d, .bool e, .bool f]) (.agg #[.bool false, .bool false, .bool false, .bool false, .bool false, .bool false])).run Tryd.prog w = .ok (.bool false) w := fun w => by rw [eq_opts, hne]
  have HT := Lib.hid (show text a b c d e f = _ by unfold text; rw [if_neg (by rw [hne]; simp)])
  clear hne
  obtain ⟨iS, hiS, hz0, hz1, hz2⟩ := info_parts Tryd.info9
  go_enter Tryd.func12, Tryd.ntmps12
  go_wp2_with fail
  refine (fields_any _).mono ?_
  rintro r w1 ⟨rfl, hb⟩
  have cs : ∀ j v, #[Value.bool a, .bool b, .bool c, .bool d, .bool e, .bool f][j]? = some v → w1.cell? ⟨w.heap.size + 1, j, none⟩ = some v := fun j v hj => by
    rw [hb.cell (by simp)]; rw [World.cell?_alloc_at _ _ _ _ (by simp)]; simpa using hj
  have hlt : w.heap.size + 1 < w1.heap.size := by have := hb.size; simp at this; omega
  go_wp2_with fail
  go_loopw [3, 14] (fun l i wr => ∃ k : Nat, k ≤ 6 ∧ i = .int .i64 k ∧ TextRel w1 a b c d e f k l wr) (fun _ i _ => 6 - (intOf i).toNat)
  case atStart => exact ⟨0, by omega, rfl, own_nil _ _ _ _, Below.refl _ _⟩
  case round =>
    obtain ⟨k, hk, rfl, hr⟩ := hrel
    have hsz := hr.2.size
    have hl := picked_length (flags a b c d e f) k
    have hcs : ∀ j v, #[Value.bool a, .bool b, .bool c, .bool d, .bool e, .bool f][j]? = some v → ∀ o, (wr.alloc o).cell? ⟨w.heap.size + 1, j, none⟩ = some v := fun j v hj o => by
      rw [World.cell?_alloc_past _ _ _ (by omega), hr.2.cell (by simpa using hlt)]; exact cs j v hj
    have HST := Lib.hid (picked_step a b c d e f k)
    have HR := Lib.hid hr
    have HB := Lib.hid hb
    clear hr hb cs
    match k, hk with
    | 0, _ =>
      have hc := hcs 0 _ rfl
      clear hcs
      have ix := idx0
      cases a
      · go_wp2_with (go_at_call 29; refine (meth0 _ _).mono ?_; rintro r w' ⟨rfl, rfl⟩)
        go_roundw
        case rel => exact ⟨1, by omega, rfl, textrel_no HR.out _ (HST.out (by omega))⟩
        case measure => simp [intOf]
      · go_wp2_with (first | (go_at_call 29; refine (meth0 _ _).mono ?_; rintro r w' ⟨rfl, rfl⟩) | (at_builtin; refine wpList_append_own _ rfl _ _ 22 rfl w1.heap.size 9 iS (.string ByteArray.empty) 1 16 Tryd.underlying22 hiS hz0 hz1 hz2 rfl (by decide) _ _ _ rfl ((HR.out.1.alloc _).alloc _) ⟨wr.heap.size + 1, 0, none⟩ 1 1 [.string nm0] rfl rfl ?c1 ?c2 ?c3 ?c4 ?c5 ?_))
        case c1 => intro j u hj; match j, hj with | 0, hj => (simp at hj; subst hj; rw [show (⟨wr.heap.size + 1, 0, none⟩ : Addr).add 0 = ⟨wr.heap.size + 1, 0, none⟩ from rfl, World.cell?_alloc_at _ _ _ _ (by simp)]; rfl) | j + 1, hj => simp at hj
        case c2 => simp [Value.oneCell']
        case c3 => unfold maxLen; omega
        case c4 => omega
        case c5 => simp; omega
        intro v' w1 hown' hgrow _
        have HO := Lib.hid hown'
        have HG := Lib.hid hgrow
        clear hown' hgrow
        go_wp2
        go_roundw
        case rel => exact ⟨1, by omega, rfl, textrel_yes HR.out (HST.out (by omega)) HO.out HG.out⟩
        case measure => simp [intOf]
    | 1, _ =>
      have hc := hcs 1 _ rfl
      clear hcs
      have ix := idx1
      cases b
      · go_wp2_with (go_at_call 30; refine (meth1 _ _).mono ?_; rintro r w' ⟨rfl, rfl⟩)
        go_roundw
        case rel => exact ⟨2, by omega, rfl, textrel_no HR.out _ (HST.out (by omega))⟩
        case measure => simp [intOf]
      · go_wp2_with (first | (go_at_call 30; refine (meth1 _ _).mono ?_; rintro r w' ⟨rfl, rfl⟩) | (at_builtin; refine wpList_append_own _ rfl _ _ 22 rfl w1.heap.size 9 iS (.string ByteArray.empty) 1 16 Tryd.underlying22 hiS hz0 hz1 hz2 rfl (by decide) _ _ _ rfl ((HR.out.1.alloc _).alloc _) ⟨wr.heap.size + 1, 0, none⟩ 1 1 [.string nm1] rfl rfl ?c1 ?c2 ?c3 ?c4 ?c5 ?_))
        case c1 => intro j u hj; match j, hj with | 0, hj => (simp at hj; subst hj; rw [show (⟨wr.heap.size + 1, 0, none⟩ : Addr).add 0 = ⟨wr.heap.size + 1, 0, none⟩ from rfl, World.cell?_alloc_at _ _ _ _ (by simp)]; rfl) | j + 1, hj => simp at hj
        case c2 => simp [Value.oneCell']
        case c3 => unfold maxLen; omega
        case c4 => omega
        case c5 => simp; omega
        intro v' w1 hown' hgrow _
        have HO := Lib.hid hown'
        have HG := Lib.hid hgrow
        clear hown' hgrow
        go_wp2
        go_roundw
        case rel => exact ⟨2, by omega, rfl, textrel_yes HR.out (HST.out (by omega)) HO.out HG.out⟩
        case measure => simp [intOf]
    | 2, _ =>
      have hc := hcs 2 _ rfl
      clear hcs
      have ix := idx2
      cases c
      · go_wp2_with (go_at_call 31; refine (meth2 _ _).mono ?_; rintro r w' ⟨rfl, rfl⟩)
        go_roundw
        case rel => exact ⟨3, by omega, rfl, textrel_no HR.out _ (HST.out (by omega))⟩
        case measure => simp [intOf]
      · go_wp2_with (first | (go_at_call 31; refine (meth2 _ _).mono ?_; rintro r w' ⟨rfl, rfl⟩) | (at_builtin; refine wpList_append_own _ rfl _ _ 22 rfl w1.heap.size 9 iS (.string ByteArray.empty) 1 16 Tryd.underlying22 hiS hz0 hz1 hz2 rfl (by decide) _ _ _ rfl ((HR.out.1.alloc _).alloc _) ⟨wr.heap.size + 1, 0, none⟩ 1 1 [.string nm2] rfl rfl ?c1 ?c2 ?c3 ?c4 ?c5 ?_))
        case c1 => intro j u hj; match j, hj with | 0, hj => (simp at hj; subst hj; rw [show (⟨wr.heap.size + 1, 0, none⟩ : Addr).add 0 = ⟨wr.heap.size + 1, 0, none⟩ from rfl, World.cell?_alloc_at _ _ _ _ (by simp)]; rfl) | j + 1, hj => simp at hj
        case c2 => simp [Value.oneCell']
        case c3 => unfold maxLen; omega
        case c4 => omega
        case c5 => simp; omega
        intro v' w1 hown' hgrow _
        have HO := Lib.hid hown'
        have HG := Lib.hid hgrow
        clear hown' hgrow
        go_wp2
        go_roundw
        case rel => exact ⟨3, by omega, rfl, textrel_yes HR.out (HST.out (by omega)) HO.out HG.out⟩
        case measure => simp [intOf]
    | 3, _ =>
      have hc := hcs 3 _ rfl
      clear hcs
      have ix := idx3
      cases d
      · go_wp2_with (go_at_call 32; refine (meth3 _ _).mono ?_; rintro r w' ⟨rfl, rfl⟩)
        go_roundw
        case rel => exact ⟨4, by omega, rfl, textrel_no HR.out _ (HST.out (by omega))⟩
        case measure => simp [intOf]
      · go_wp2_with (first | (go_at_call 32; refine (meth3 _ _).mono ?_; rintro r w' ⟨rfl, rfl⟩) | (at_builtin; refine wpList_append_own _ rfl _ _ 22 rfl w1.heap.size 9 iS (.string ByteArray.empty) 1 16 Tryd.underlying22 hiS hz0 hz1 hz2 rfl (by decide) _ _ _ rfl ((HR.out.1.alloc _).alloc _) ⟨wr.heap.size + 1, 0, none⟩ 1 1 [.string nm3] rfl rfl ?c1 ?c2 ?c3 ?c4 ?c5 ?_))
        case c1 => intro j u hj; match j, hj with | 0, hj => (simp at hj; subst hj; rw [show (⟨wr.heap.size + 1, 0, none⟩ : Addr).add 0 = ⟨wr.heap.size + 1, 0, none⟩ from rfl, World.cell?_alloc_at _ _ _ _ (by simp)]; rfl) | j + 1, hj => simp at hj
        case c2 => simp [Value.oneCell']
        case c3 => unfold maxLen; omega
        case c4 => omega
        case c5 => simp; omega
        intro v' w1 hown' hgrow _
        have HO := Lib.hid hown'
        have HG := Lib.hid hgrow
        clear hown' hgrow
        go_wp2
        go_roundw
        case rel => exact ⟨4, by omega, rfl, textrel_yes HR.out (HST.out (by omega)) HO.out HG.out⟩
        case measure => simp [intOf]
    | 4, _ =>
      have hc := hcs 4 _ rfl
      clear hcs
      have ix := idx4
      cases e
      · go_wp2_with (go_at_call 33; refine (meth4 _ _).mono ?_; rintro r w' ⟨rfl, rfl⟩)
        go_roundw
        case rel => exact ⟨5, by omega, rfl, textrel_no HR.out _ (HST.out (by omega))⟩
        case measure => simp [intOf]
      · go_wp2_with (first | (go_at_call 33; refine (meth4 _ _).mono ?_; rintro r w' ⟨rfl, rfl⟩) | (at_builtin; refine wpList_append_own _ rfl _ _ 22 rfl w1.heap.size 9 iS (.string ByteArray.empty) 1 16 Tryd.underlying22 hiS hz0 hz1 hz2 rfl (by decide) _ _ _ rfl ((HR.out.1.alloc _).alloc _) ⟨wr.heap.size + 1, 0, none⟩ 1 1 [.string nm4] rfl rfl ?c1 ?c2 ?c3 ?c4 ?c5 ?_))
        case c1 => intro j u hj; match j, hj with | 0, hj => (simp at hj; subst hj; rw [show (⟨wr.heap.size + 1, 0, none⟩ : Addr).add 0 = ⟨wr.heap.size + 1, 0, none⟩ from rfl, World.cell?_alloc_at _ _ _ _ (by simp)]; rfl) | j + 1, hj => simp at hj
        case c2 => simp [Value.oneCell']
        case c3 => unfold maxLen; omega
        case c4 => omega
        case c5 => simp; omega
        intro v' w1 hown' hgrow _
        have HO := Lib.hid hown'
        have HG := Lib.hid hgrow
        clear hown' hgrow
        go_wp2
        go_roundw
        case rel => exact ⟨5, by omega, rfl, textrel_yes HR.out (HST.out (by omega)) HO.out HG.out⟩
        case measure => simp [intOf]
    | 5, _ =>
      have hc := hcs 5 _ rfl
      clear hcs
      have ix := idx5
      cases f
      · go_wp2_with (go_at_call 34; refine (meth5 _ _).mono ?_; rintro r w' ⟨rfl, rfl⟩)
        go_roundw
        case rel => exact ⟨6, by omega, rfl, textrel_no HR.out _ (HST.out (by omega))⟩
        case measure => simp [intOf]
      · go_wp2_with (first | (go_at_call 34; refine (meth5 _ _).mono ?_; rintro r w' ⟨rfl, rfl⟩) | (at_builtin; refine wpList_append_own _ rfl _ _ 22 rfl w1.heap.size 9 iS (.string ByteArray.empty) 1 16 Tryd.underlying22 hiS hz0 hz1 hz2 rfl (by decide) _ _ _ rfl ((HR.out.1.alloc _).alloc _) ⟨wr.heap.size + 1, 0, none⟩ 1 1 [.string nm5] rfl rfl ?c1 ?c2 ?c3 ?c4 ?c5 ?_))
        case c1 => intro j u hj; match j, hj with | 0, hj => (simp at hj; subst hj; rw [show (⟨wr.heap.size + 1, 0, none⟩ : Addr).add 0 = ⟨wr.heap.size + 1, 0, none⟩ from rfl, World.cell?_alloc_at _ _ _ _ (by simp)]; rfl) | j + 1, hj => simp at hj
        case c2 => simp [Value.oneCell']
        case c3 => unfold maxLen; omega
        case c4 => omega
        case c5 => simp; omega
        intro v' w1 hown' hgrow _
        have HO := Lib.hid hown'
        have HG := Lib.hid hgrow
        clear hown' hgrow
        go_wp2
        go_roundw
        case rel => exact ⟨6, by omega, rfl, textrel_yes HR.out (HST.out (by omega)) HO.out HG.out⟩
        case measure => simp [intOf]
    | 6, _ =>
      clear hcs
      go_wp2_with fail
      refine (join_any wr _ _ (picked (flags a b c d e f) 6) HR.out.1 (by omega) (flags_len a b c d e f)).mono ?_
      rintro r w' ⟨rfl, hb'⟩
      have HB' := Lib.hid hb'
      clear hb'
      go_wp2
      go_ret
      exact ⟨by rw [HT.out]; rfl, below_then (((below_alloc' (below_alloc (Below.refl _ _) _) (Nat.le_refl _) _).trans (HB.out.mono (by simp; omega))).trans (HR.out.2.mono (by omega))) (by omega) HB'.out⟩
    | k + 7, hk => exact absurd hk (by omega)

theorem text_any (a b c d e f : Bool) (w : World) : Calls Tryd.prog 12 #[.agg #[.bool a, .bool b, .bool c, .bool d, .bool e, .bool f]] w (RV (.string (text a b c d e f)) w) := by
  cases h : (a == false && (b == false && (c == false && (d == false && (e == false && (f == false && true))))))
  · exact text_some a b c d e f w h
  · exact text_dash a b c d e f w h

end Go.Proofs.YtagopeefobefnaaDoor
