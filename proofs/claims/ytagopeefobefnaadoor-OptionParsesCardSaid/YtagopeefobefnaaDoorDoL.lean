/- The law OptionParses. -/
import Derived.Test.YtagopeefobefnaaDoorDoK
namespace Go.Proofs.YtagopeefobefnaaDoor
open Go.RowKit
set_option linter.unusedSimpArgs false
set_option linter.unusedVariables false

theorem par_some {s : ByteArray} {p : Nat → Bool} (h : parseP s = some p) : ((textP p).toList == s.toList) = true := by
  unfold parseP at h
  split at h
  · rename_i hz
    obtain rfl : zeroP = p := by simpa using h
    rw [eq_of_beq hz]
    kernel_rfl
  · split at h
    · cases h
    · split at h
      · rename_i hq
        obtain rfl := Option.some.inj h
        exact hq
      · cases h

set_option maxRecDepth 100000 in
set_option maxHeartbeats 1000000 in
theorem opparses_long (s : ByteArray) (w : World) (hs : 200 < s.size) : Calls Tryd.prog 4 #[.string s] w (RB true w) := by
  have h : (200 : Int) < s.size := by omega
  go_enter Tryd.func4, Tryd.ntmps4
  go_wp2_with fail
  refine (alive_any _).mono ?_
  rintro r w1 ⟨rfl, hb⟩
  have HB := Lib.hid hb
  clear hb
  go_wp2_with fail
  go_ret
  exact ⟨rfl, HB.out⟩

set_option maxRecDepth 100000 in
set_option maxHeartbeats 4000000 in
theorem opparses_walk (s : ByteArray) (m : Int) (w : World) (hs : ¬ 200 < s.size) (hm : w.cell? ⟨2, 0, none⟩ = some (.int .i64 m)) (a b c d e f z : Bool)
    (ha : ansP (parseP s) = .tuple #[.agg #[.bool a, .bool b, .bool c, .bool d, .bool e, .bool f], .bool z]) (hq : z = true → ((text a b c d e f).toList == s.toList) = true) :
    Calls Tryd.prog 4 #[.string s] w (RB true w) := by
  have h : ¬ (200 : Int) < s.size := by omega
  have heq : ∀ w, (binOp .eql 25 (.agg #[.bool a, .bool b, .bool c, .bool d, .bool e, .bool f]) (.agg #[.bool a, .bool b, .bool c, .bool d, .bool e, .bool f])).run Tryd.prog w = .ok (.bool true) w := fun w => by
    rw [eq_opts]; simp
  have CP := parse_any s m w (by omega) hm
  have CR := refparse_any s
  rw [ha] at CP CR
  have CP := Lib.hid CP
  have CR := Lib.hid CR
  have CT := Lib.hid (text_any a b c d e f)
  clear hs hm ha
  have main : Hid (z = true → ((text a b c d e f).toList == s.toList) = true) := hq
  clear hq
  obtain ⟨t, ht⟩ : ∃ t, t = text a b c d e f := ⟨_, rfl⟩
  rw [← ht] at main CT
  clear ht
  go_enter Tryd.func4, Tryd.ntmps4
  go_wp2_with fail
  refine CP.out.mono ?_
  rintro r w1 ⟨rfl, hb1⟩
  have HB1 := Lib.hid hb1
  clear hb1
  go_wp2_with fail
  refine (CR.out _).mono ?_
  rintro r w2 ⟨rfl, hb2⟩
  have HB2 := Lib.hid hb2
  clear hb2
  go_wp2_with fail
  obtain ⟨W3, hW3⟩ : ∃ W3, W3 = w2.alloc (.cells #[.bool a, .bool b, .bool c, .bool d, .bool e, .bool f] 25) := ⟨_, rfl⟩
  rw [← hW3]
  have hb3 : Below w2.heap.size w2 W3 := by rw [hW3]; exact below_alloc (Below.refl _ _) _
  have hs2 := HB2.out.size
  have HG : Hid (∀ W, Below W3.heap.size W3 W → ∀ (j : Nat) (u : Value), (#[.bool a, .bool b, .bool c, .bool d, .bool e, .bool f] : Array Value)[j]? = some u → W.cell? ⟨w1.heap.size, j, none⟩ = some u ∧ W.cell? ⟨w2.heap.size, j, none⟩ = some u) := fun W hW j u hu => by
    refine ⟨?_, ?_⟩
    · rw [hW.cell (by have := hb3.size; simp at hs2 ⊢; omega), hb3.cell (by simp at hs2 ⊢; omega), HB2.out.cell (by simp), World.cell?_alloc_at _ _ _ _ rfl]; exact hu
    · rw [hW.cell (by rw [hW3]; simp), hW3, World.cell?_alloc_at _ _ _ _ rfl]; exact hu
  have HB3 := Lib.hid (below_then' (below_then' (below_alloc HB1.out (.cells #[.bool a, .bool b, .bool c, .bool d, .bool e, .bool f] 25)) HB2.out) hb3)
  clear hs2 hb3 hW3 HB1 HB2 CP CR
  refine (alive_any _).mono ?_
  rintro r w4 ⟨rfl, hb4⟩
  have HB4 := Lib.hid hb4
  have y0 := HG.out w4 hb4 0 _ rfl
  have y1 := HG.out w4 hb4 1 _ rfl
  have y2 := HG.out w4 hb4 2 _ rfl
  have y3 := HG.out w4 hb4 3 _ rfl
  have y4 := HG.out w4 hb4 4 _ rfl
  have y5 := HG.out w4 hb4 5 _ rfl
  obtain ⟨u0, v0⟩ := y0
  obtain ⟨u1, v1⟩ := y1
  obtain ⟨u2, v2⟩ := y2
  obtain ⟨u3, v3⟩ := y3
  obtain ⟨u4, v4⟩ := y4
  obtain ⟨u5, v5⟩ := y5
  clear hb4
  cases z with
  | false =>
    clear main
    go_wp2_with fail
    go_ret
    exact ⟨rfl, below_then' HB3.out HB4.out⟩
  | true =>
    have hts := main.out rfl
    clear main
    go_wp2_with fail
    refine (CT.out _).mono ?_
    rintro r w5 ⟨rfl, hb5⟩
    have HB5 := Lib.hid hb5
    clear hb5
    go_wp2_with fail
    go_ret
    exact ⟨rfl, below_then' (below_then' HB3.out HB4.out) HB5.out⟩

theorem opparses_any (s : ByteArray) (m : Int) (w : World) (hm : w.cell? ⟨2, 0, none⟩ = some (.int .i64 m)) : Calls Tryd.prog 4 #[.string s] w (RB true w) := by
  by_cases hs : 200 < s.size
  · exact opparses_long s w hs
  · cases hp : parseP s with
    | none => exact opparses_walk s m w hs hm false false false false false false false (by rw [hp]; rfl) (fun h => by cases h)
    | some p => exact opparses_walk s m w hs hm (p 0) (p 1) (p 2) (p 3) (p 4) (p 5) true (by rw [hp]; rfl) (fun _ => par_some hp)

end Go.Proofs.YtagopeefobefnaaDoor
