/- The law OptionTexts. -/
import Derived.Test.YtagopeefobefnaaDoorDoQ
namespace Go.Proofs.YtagopeefobefnaaDoor
open Go.RowKit
set_option linter.unusedSimpArgs false
set_option linter.unusedVariables false

theorem parse_text (a b c d e f : Bool) : (parseP (text a b c d e f)).map (fun p => [p 0, p 1, p 2, p 3, p 4, p 5]) = some [a, b, c, d, e, f] := by
  cases a <;> cases b <;> cases c <;> cases d <;> cases e <;> cases f <;> kernel_rfl
theorem parse_text' (a b c d e f : Bool) : ansP (parseP (text a b c d e f)) = .tuple #[.agg #[.bool a, .bool b, .bool c, .bool d, .bool e, .bool f], .bool true] := by
  have h := parse_text a b c d e f
  cases hp : parseP (text a b c d e f) with
  | none => rw [hp] at h; cases h
  | some p =>
    rw [hp] at h
    simp at h
    obtain ⟨h0, h1, h2, h3, h4, h5⟩ := h
    subst h0 h1 h2 h3 h4 h5
    rfl
theorem text_small (a b c d e f : Bool) : (text a b c d e f).size ≤ 1000 := by
  cases a <;> cases b <;> cases c <;> cases d <;> cases e <;> cases f <;> exact Nat.le_of_ble_eq_true (by kernel_rfl)

set_option maxRecDepth 100000 in
set_option maxHeartbeats 1000000 in
theorem texts_any (a b c d e f : Bool) (m : Int) (w : World) (hm : w.cell? ⟨2, 0, none⟩ = some (.int .i64 m)) :
    Calls Tryd.prog 5 #[.agg #[.bool a, .bool b, .bool c, .bool d, .bool e, .bool f]] w (RB true w) := by
  have heq : ∀ w, (binOp .eql 25 (.agg #[.bool a, .bool b, .bool c, .bool d, .bool e, .bool f]) (.agg #[.bool a, .bool b, .bool c, .bool d, .bool e, .bool f])).run Tryd.prog w = .ok (.bool true) w := fun w => by
    rw [eq_opts]; simp
  have CT := Lib.hid (text_any a b c d e f)
  have CR := Lib.hid (refText_any a b c d e f)
  have CP : Hid (∀ w, w.cell? ⟨2, 0, none⟩ = some (.int .i64 m) → Calls Tryd.prog 13 #[.string (text a b c d e f)] w (RV (.tuple #[.agg #[.bool a, .bool b, .bool c, .bool d, .bool e, .bool f], .bool true]) w)) := fun w h => by
    have := parse_any (text a b c d e f) m w (text_small ..) h
    rwa [parse_text'] at this
  have CV := Lib.hid (valid_any a b c d e f)
  have CW := Lib.hid (refvalid_any a b c d e f)
  obtain ⟨s, hs⟩ : ∃ s, s = text a b c d e f := ⟨_, rfl⟩
  obtain ⟨v, hv⟩ : ∃ v, v = (d || !f) := ⟨_, rfl⟩
  rw [← hs] at CT CR CP
  rw [← hv] at CV CW
  have hss : (s.toList == s.toList) = true := by simp
  have hvv : (v == v) = true := by simp
  have HM := Lib.hid hm
  have HLM := Lib.hid (World.block_lt_of_cell? _ _ hm)
  clear hs hv hm
  go_enter Tryd.func5, Tryd.ntmps5
  go_wp2_with fail
  refine (CT.out _).mono ?_
  rintro r w1 ⟨rfl, hb1⟩
  have HB1 := Lib.hid hb1
  have hm1 := Lib.hid (show w1.cell? ⟨2, 0, none⟩ = some (.int .i64 m) by
    rw [hb1.cell (by have := HLM.out; simp at this ⊢; omega), World.cell?_alloc_past _ _ _ HLM.out]; exact HM.out)
  clear hb1
  go_wp2_with fail
  refine (CP.out _ hm1.out).mono ?_
  rintro r w2 ⟨rfl, hb2⟩
  have HB2 := Lib.hid hb2
  clear hb2
  go_wp2_with fail
  obtain ⟨W3, hW3⟩ : ∃ W3, W3 = w2.alloc (.cells #[.bool a, .bool b, .bool c, .bool d, .bool e, .bool f] 25) := ⟨_, rfl⟩
  rw [← hW3]
  have hb3 : Below w2.heap.size w2 W3 := by rw [hW3]; exact below_alloc (Below.refl _ _) _
  have HB := Lib.hid (below_then' (below_then' (below_then' (below_alloc (Below.refl w.heap.size w) (.cells #[.bool a, .bool b, .bool c, .bool d, .bool e, .bool f] 25)) HB1.out) HB2.out) hb3)
  have hs1 := HB1.out.size
  have hs2 := HB2.out.size
  obtain ⟨S, hS⟩ : ∃ S, S = fun w' => Below W3.heap.size W3 w' := ⟨_, rfl⟩
  have hSp : ∀ x, S x → Below W3.heap.size W3 x := by rw [hS]; exact fun _ h => h
  have HX := Lib.hid (show ∀ x1 x2, S x1 → Below x1.heap.size x1 x2 → S x2 from by rw [hS]; exact fun x1 x2 h hb => below_then' h hb)
  have hg : ∀ (p : Wld S) (j : Nat) (u : Value), (w.alloc (.cells #[.bool a, .bool b, .bool c, .bool d, .bool e, .bool f] 25)).cell? ⟨w.heap.size, j, none⟩ = some u → p.w.cell? ⟨w.heap.size, j, none⟩ = some u := fun p j u hu => by
    rw [(hSp _ p.ok).cell (by have := hb3.size; simp at hs1 ⊢; omega), hb3.cell (by simp at hs1 ⊢; omega), HB2.out.cell (by simp at hs1 ⊢; omega), HB1.out.cell (by simp)]; exact hu
  have hk : ∀ (p : Wld S) (j : Nat) (u : Value), (#[.bool a, .bool b, .bool c, .bool d, .bool e, .bool f] : Array Value)[j]? = some u → p.w.cell? ⟨w2.heap.size, j, none⟩ = some u := fun p j u hu => by
    rw [(hSp _ p.ok).cell (by rw [hW3]; simp), hW3, World.cell?_alloc_at _ _ _ _ rfl]; exact hu
  have g0 : ∀ p : Wld S, p.w.cell? ⟨w.heap.size, 0, none⟩ = some (.bool a) := fun p => hg p 0 _ (by rw [World.cell?_alloc_at _ _ _ _ rfl]; rfl)
  have g1 : ∀ p : Wld S, p.w.cell? ⟨w.heap.size, 1, none⟩ = some (.bool b) := fun p => hg p 1 _ (by rw [World.cell?_alloc_at _ _ _ _ rfl]; rfl)
  have g2 : ∀ p : Wld S, p.w.cell? ⟨w.heap.size, 2, none⟩ = some (.bool c) := fun p => hg p 2 _ (by rw [World.cell?_alloc_at _ _ _ _ rfl]; rfl)
  have g3 : ∀ p : Wld S, p.w.cell? ⟨w.heap.size, 3, none⟩ = some (.bool d) := fun p => hg p 3 _ (by rw [World.cell?_alloc_at _ _ _ _ rfl]; rfl)
  have g4 : ∀ p : Wld S, p.w.cell? ⟨w.heap.size, 4, none⟩ = some (.bool e) := fun p => hg p 4 _ (by rw [World.cell?_alloc_at _ _ _ _ rfl]; rfl)
  have g5 : ∀ p : Wld S, p.w.cell? ⟨w.heap.size, 5, none⟩ = some (.bool f) := fun p => hg p 5 _ (by rw [World.cell?_alloc_at _ _ _ _ rfl]; rfl)
  have k0 : ∀ p : Wld S, p.w.cell? ⟨w2.heap.size, 0, none⟩ = some (.bool a) := fun p => hk p 0 _ rfl
  have k1 : ∀ p : Wld S, p.w.cell? ⟨w2.heap.size, 1, none⟩ = some (.bool b) := fun p => hk p 1 _ rfl
  have k2 : ∀ p : Wld S, p.w.cell? ⟨w2.heap.size, 2, none⟩ = some (.bool c) := fun p => hk p 2 _ rfl
  have k3 : ∀ p : Wld S, p.w.cell? ⟨w2.heap.size, 3, none⟩ = some (.bool d) := fun p => hk p 3 _ rfl
  have k4 : ∀ p : Wld S, p.w.cell? ⟨w2.heap.size, 4, none⟩ = some (.bool e) := fun p => hk p 4 _ rfl
  have k5 : ∀ p : Wld S, p.w.cell? ⟨w2.heap.size, 5, none⟩ = some (.bool f) := fun p => hk p 5 _ rfl
  have HP := Lib.hid (show ∀ p : Wld S, Below w.heap.size w p.w from fun p => below_then' HB.out (hSp _ p.ok))
  have HS := Lib.hid (show S W3.drew by rw [hS]; exact (Below.refl _ _).drew)
  clear hS hSp hg hk hs1 hs2 hb3 hW3 HB HB1 HB2 CT CP HM HLM hm1
  have hne : Nonempty (Wld S) := ⟨⟨_, HS.out⟩⟩
  refine wp_region_sub S (by kernel_rfl) (by kernel_rfl) HS.out ?_
  repeat (quiet_step (first
      | (go_at_call 6; exact calls_sub HX.out (alive_any _))
      | (go_at_call 15; exact calls_sub HX.out (CR.out _))
      | (go_at_call 16; exact calls_sub HX.out (CV.out _))
      | (go_at_call 17; exact calls_sub HX.out (CW.out _))))
  refine wpQuiet_nil ?_
  intro _ hw'
  obtain ⟨pq, hw''⟩ := hw'
  subst hw''
  go_wp2_with fail
  go_ret
  exact ⟨rfl, HP.out pq⟩

end Go.Proofs.YtagopeefobefnaaDoor
