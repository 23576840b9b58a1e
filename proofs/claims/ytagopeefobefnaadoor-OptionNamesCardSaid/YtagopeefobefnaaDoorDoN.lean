/- The law OptionNames. -/
import Derived.Test.YtagopeefobefnaaDoorDoM
import Derived.Lib.SmallJoins
import Derived.Lib.LaidTab
namespace Go.Proofs.YtagopeefobefnaaDoor
open Go.RowKit
set_option linter.unusedSimpArgs false
set_option linter.unusedVariables false

set_option maxRecDepth 100000 in
set_option maxHeartbeats 1000000 in
theorem names_long (A : Option Addr) (n c : Nat) (w : World) (hs : 20 < n) : Calls Tryd.prog 3 #[.slice A n c] w (RB true w) := by
  have h : (20 : Int) < n := by omega
  go_enter Tryd.func3, Tryd.ntmps3
  go_wp2_with fail
  refine (alive_any _).mono ?_
  rintro r w1 ⟨rfl, hb⟩
  have HB := Lib.hid hb
  clear hb
  go_wp2_with fail
  go_ret
  exact ⟨rfl, HB.out⟩

set_option maxRecDepth 100000 in
set_option maxHeartbeats 4000000 in
theorem names_walk (A : Option Addr) (n c : Nat) (xs : List ByteArray) (w : World) (hs : ¬ 20 < n) (hn : n = xs.length) (hr : RdS w (.slice A n c) xs) (htab : Lib.TabIs Tryd.prog w "strings.asciiSpace" .u8 Lib.asciiSpaceTab) (a b c' d e f z : Bool)
    (ha : ansP (ofP xs zeroP) = .tuple #[.agg #[.bool a, .bool b, .bool c', .bool d, .bool e, .bool f], .bool z]) (hq : z = true → 0 < n → (Lib.fields (text a b c' d e f).data.toList).length = n) :
    Calls Tryd.prog 3 #[.slice A n c] w (RB true w) := by
  have h : ¬ (20 : Int) < n := by omega
  have heq : ∀ w, (binOp .eql 25 (.agg #[.bool a, .bool b, .bool c', .bool d, .bool e, .bool f]) (.agg #[.bool a, .bool b, .bool c', .bool d, .bool e, .bool f])).run Tryd.prog w = .ok (.bool true) w := fun w => by
    rw [eq_opts]; simp
  have C1 := Lib.hid (fun (w : World) (v : Value) (hr : RdS w v xs) => optOf_any w v xs hr (by omega))
  have C2 := Lib.hid (fun (w : World) (v : Value) (hr : RdS w v xs) => refOf_any w v xs hr (by omega))
  have C3 := Lib.hid (fun (w : World) (v : Value) (hr : RdS w v xs) => cloneS_any w v xs (by omega) hr)
  have C4 := Lib.hid (fun (w : World) (base : Nat) (v : Value) (hr : OwnS base v xs w) => revS_any w base v xs (by omega) hr)
  have C5 := Lib.hid (fun (w : World) (v : Value) (hr : RdS w v xs.reverse) => optOf_any w v xs.reverse hr (by rw [List.length_reverse]; omega))
  rw [ofP_reverse] at C5
  rw [ha] at C1 C2 C5
  have CT := Lib.hid (text_any a b c' d e f)
  have HASC := Lib.hid (text_ascii' a b c' d e f)
  have HSZ := Lib.hid (text_small a b c' d e f)
  have HN := Lib.hid hn
  have HR := Lib.hid hr
  have HT := Lib.hid htab
  have main : Hid (z = true → 0 < n → (Lib.fields (text a b c' d e f).data.toList).length = n) := hq
  clear hq hr htab ha hs hn
  obtain ⟨t, ht⟩ : ∃ t, t = text a b c' d e f := ⟨_, rfl⟩
  rw [← ht] at main CT HASC HSZ
  clear ht
  go_enter Tryd.func3, Tryd.ntmps3
  go_wp2_with fail
  refine (C1.out _ _ HR.out).mono ?_
  rintro r w1 ⟨rfl, hb1⟩
  have HB1 := Lib.hid hb1
  clear hb1
  go_wp2_with fail
  obtain ⟨O, hO⟩ : ∃ O : Array Value, O = #[.bool a, .bool b, .bool c', .bool d, .bool e, .bool f] := ⟨_, rfl⟩
  have HO := Lib.hid hO
  have hbW1 : Below w.heap.size w (w1.alloc (.cells #[.bool a, .bool b, .bool c', .bool d, .bool e, .bool f] 25)) := below_alloc HB1.out _
  refine (C2.out _ _ (HR.out.below hbW1)).mono ?_
  rintro r w2 ⟨rfl, hb2⟩
  have HB2 := Lib.hid hb2
  have HBW1 := Lib.hid hbW1
  clear hb2 hbW1 hO
  go_wp2_with fail
  have hbW2 : Below w.heap.size w (w2.alloc (.cells #[.bool a, .bool b, .bool c', .bool d, .bool e, .bool f] 25)) := below_alloc (below_then' HBW1.out HB2.out) _
  refine (C3.out _ _ (HR.out.below hbW2)).mono ?_
  rintro r w3 ⟨v3, rfl, hown, hb3⟩
  have HOWN := Lib.hid hown
  obtain ⟨A3, c3, e3, -, -⟩ := hown
  rw [← HN.out] at e3
  subst e3
  have HB3 := Lib.hid hb3
  have HBW2 := Lib.hid hbW2
  clear hb3 hbW2
  go_wp2_with fail
  refine (C4.out _ _ _ HOWN.out).mono ?_
  rintro r w4 ⟨rfl, hr4, hb4⟩
  have HR4 := Lib.hid hr4
  have HB4 := Lib.hid hb4
  clear hr4 hb4
  go_wp2_with fail
  refine (C5.out _ _ HR4.out).mono ?_
  rintro r w5 ⟨rfl, hb5⟩
  have HB5 := Lib.hid hb5
  clear hb5
  go_wp2_with fail
  obtain ⟨W5, hW5⟩ : ∃ W5, W5 = w5.alloc (.cells #[.bool a, .bool b, .bool c', .bool d, .bool e, .bool f] 25) := ⟨_, rfl⟩
  rw [← hW5]
  have hbW5 : Below w5.heap.size w5 W5 := by rw [hW5]; exact below_alloc (Below.refl _ _) _
  have s1 := HB1.out.size
  have s2 := HB2.out.size
  have s3 := HB3.out.size
  have s4 := HB4.out.size
  have s5 := HB5.out.size
  have s6 := hbW5.size
  simp at s2 s3
  have HG : Hid (∀ W, Below W5.heap.size W5 W → ∀ (j : Nat) (u : Value), (#[.bool a, .bool b, .bool c', .bool d, .bool e, .bool f] : Array Value)[j]? = some u → W.cell? ⟨w1.heap.size, j, none⟩ = some u ∧ W.cell? ⟨w2.heap.size, j, none⟩ = some u ∧ W.cell? ⟨w5.heap.size, j, none⟩ = some u) := fun W hW j u hu => by
    refine ⟨?_, ?_, ?_⟩
    · rw [hW.cell (by first | omega | (simp; omega)), hbW5.cell (by first | omega | (simp; omega)), HB5.out.cell (by first | omega | (simp; omega)), HB4.out.cell (by first | omega | (simp; omega)), HB3.out.cell (by first | omega | (simp; omega)), World.cell?_alloc_past _ _ _ (by first | omega | (simp; omega)), HB2.out.cell (by simp), World.cell?_alloc_at _ _ _ _ rfl]; exact hu
    · rw [hW.cell (by first | omega | (simp; omega)), hbW5.cell (by first | omega | (simp; omega)), HB5.out.cell (by first | omega | (simp; omega)), HB4.out.cell (by simp), HB3.out.cell (by simp), World.cell?_alloc_at _ _ _ _ rfl]; exact hu
    · rw [hW.cell (by rw [hW5]; simp), hW5, World.cell?_alloc_at _ _ _ _ rfl]; exact hu
  have HBF := Lib.hid (show Below w.heap.size w W5 from below_then' (below_then' ((below_then' HBW2.out HB3.out).trans (HB4.out.mono (by first | omega | (simp; omega)))) HB5.out) hbW5)
  clear s1 s2 s3 s4 s5 s6 hbW5 hW5 HB1 HB2 HB3 HB4 HB5 HBW1 HBW2 C1 C2 C3 C4 C5 HR HR4 HOWN HO
  refine (alive_any _).mono ?_
  rintro r w6 ⟨rfl, hb6⟩
  have HB6 := Lib.hid hb6
  obtain ⟨u0, v0, x0⟩ := HG.out w6 hb6 0 _ rfl
  obtain ⟨u1, v1, x1⟩ := HG.out w6 hb6 1 _ rfl
  obtain ⟨u2, v2, x2⟩ := HG.out w6 hb6 2 _ rfl
  obtain ⟨u3, v3, x3⟩ := HG.out w6 hb6 3 _ rfl
  obtain ⟨u4, v4, x4⟩ := HG.out w6 hb6 4 _ rfl
  obtain ⟨u5, v5, x5⟩ := HG.out w6 hb6 5 _ rfl
  clear hb6
  cases z with
  | false =>
    clear main
    go_wp2_with fail
    go_ret
    exact ⟨rfl, below_then' HBF.out HB6.out⟩
  | true =>
    by_cases h0 : n = 0
    · subst h0
      clear main
      go_wp2_with fail
      go_ret
      exact ⟨rfl, below_then' HBF.out HB6.out⟩
    · have hts := main.out rfl (by omega)
      have hn0 : ((n : Int) == 0) = false := by simpa using h0
      have hn0' : ¬ (n : Int) = 0 := by omega
      have HTS := Lib.hid hts
      clear main hts
      go_wp2_with fail
      refine (CT.out _).mono ?_
      rintro r w7 ⟨rfl, hb7⟩
      have HB7 := Lib.hid (below_then' (below_then' HBF.out HB6.out) hb7)
      clear hb7
      go_wp2_with fail
      refine (Tryd.strings_Fields t _ (by have := HSZ.out; omega) HASC.out (Go.Joins.tab_stays (g := 0) (by kernel_rfl) HT.out HB7.out (Nat.le_refl _))).mono ?_
      rintro r w8 ⟨rfl, hw8⟩
      rw [HTS.out]
      have HB8 := Lib.hid (show Below w.heap.size w w8 by rw [hw8]; exact below_alloc HB7.out _)
      clear hw8
      go_wp2_with fail
      go_ret
      exact ⟨rfl, HB8.out⟩

theorem names_any_law (A : Option Addr) (l cap : Nat) (xs : List ByteArray) (w : World) (hr : l ≤ 20 → RdS w (.slice A l cap) xs ∧ l = xs.length) (htab : Lib.TabIs Tryd.prog w "strings.asciiSpace" .u8 Lib.asciiSpaceTab) :
    Calls Tryd.prog 3 #[.slice A l cap] w (RB true w) := by
  by_cases hs : 20 < l
  · exact names_long A l cap w hs
  · obtain ⟨h1, h2⟩ := hr (by omega)
    cases hp : ofP xs zeroP with
    | none => exact names_walk A l cap xs w hs h2 h1 htab false false false false false false false (by rw [hp]; rfl) (fun h => by cases h)
    | some p =>
      refine names_walk A l cap xs w hs h2 h1 htab (p 0) (p 1) (p 2) (p 3) (p 4) (p 5) true (by rw [hp]; rfl) (fun _ h0 => ?_)
      have hc := cnt_of xs zeroP p hp
      have hz : cnt zeroP = 0 := rfl
      rw [hz, Nat.zero_add, ← h2] at hc
      rw [fields_cnt]
      · exact hc
      · by_cases hh : (p 0 || p 1 || p 2 || p 3 || p 4 || p 5) = true
        · exact hh
        · simp at hh
          obtain ⟨⟨⟨⟨⟨q0, q1⟩, q2⟩, q3⟩, q4⟩, q5⟩ := hh
          unfold cnt at hc
          rw [q0, q1, q2, q3, q4, q5] at hc
          simp at hc
          omega

end Go.Proofs.YtagopeefobefnaaDoor
