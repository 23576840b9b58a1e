/- The law FrameOnce. -/
import Derived.Test.YtdiiolbkjmhmdaaFrU
import Derived.Test.YtdiiolbkjmhmdaaFrO
namespace Go.Proofs.Ytdiiolbkjmhmdaa
open Go.RowKit
set_option linter.unusedSimpArgs false
set_option linter.unusedVariables false

/-- Two slices in a new slice of slices: few. -/
theorem few2 (W : World) (A : Option Addr) (m cap : Nat) (A' : Option Addr) (m' cap' : Nat) (ty : TypeId) {p : Nat} (hp : p = W.heap.size) :
    Calls Try.prog 34 #[.slice (some ⟨p, 0, none⟩) 2 2] (W.alloc (.cells #[.slice A m cap, .slice A' m' cap'] ty)) (RB (fewB [m, m']) (W.alloc (.cells #[.slice A m cap, .slice A' m' cap'] ty))) := by
  subst hp
  refine few_any _ (some ⟨W.heap.size, 0, none⟩) 2 [m, m'] 2 rfl (fun _ => ⟨W.heap.size, 0, rfl, by simp, fun j hj => ?_⟩) (by omega)
  match j, hj with
  | 0, _ => exact ⟨A, cap, by rw [World.cell?_alloc_at _ _ _ _ rfl]; rfl⟩
  | 1, _ => exact ⟨A', cap', by rw [World.cell?_alloc_at _ _ _ _ rfl]; rfl⟩
theorem EvSW.part {w : World} {B : Nat} {v : Value} {es : List Ev} (h : EvSW w B v es) : ∃ cs, EvP w v es.length cs ∧ EvLW w 0 cs es := by
  obtain ⟨cs, h1, h2⟩ := h
  exact ⟨cs, own_part h1 h2.1 h2.ones, h2.mono (Nat.zero_le _)⟩
theorem RdB.sub {w : World} {gb ob m cap : Nat} {xs : List Int} (h : RdB w (.slice (some ⟨gb, ob, none⟩) m cap) xs) (k l : Nat) (hkl : k + l ≤ m) (hl : 0 < l) : RdB w (.slice (some ⟨gb, ob + k, none⟩) l (cap - k)) ((xs.drop k).take l) := by
  have hlen := h.len
  have hl2 : ((xs.drop k).take l).length = l := by rw [List.length_take, List.length_drop]; omega
  obtain ⟨h0, h1, A1, c1, e, h2, h3, h4⟩ := h
  injection e with e1 e2 e3
  subst e1 e3
  obtain ⟨g, o, e, hg, hc⟩ := h4 (by omega)
  injection e with e
  injection e with e4 e5
  subst e4 e5
  refine ⟨fun x hx => h0 x (List.mem_of_mem_drop (List.mem_of_mem_take hx)), by rw [hl2]; omega, some ⟨gb, ob + k, none⟩, cap - k, by rw [hl2], by rw [hl2]; omega, ⟨by omega, fun h => nomatch h⟩, fun _ => ⟨gb, ob + k, rfl, hg, fun j hj => ?_⟩⟩
  rw [hl2] at hj
  rw [Nat.add_assoc, hc (k + j) (by omega)]
  congr 2
  simp [List.getD_eq_getElem?_getD, List.getElem?_take, hj, List.getElem?_drop]
set_option maxRecDepth 100000 in
theorem run_cut (W : World) (gb ob m cap z l : Nat) (h : z + l ≤ m) (hc : m ≤ cap) (hl : 0 < l) :
    (Instr.sliceAt 24 (.slice (some ⟨gb, ob, none⟩) m cap) (some (.int .i64 z)) (some (.int .i64 ((z : Int) + l))) none).run Try.prog W = .ok (.slice (some ⟨gb, ob + z, none⟩) l (cap - z)) W := by
  have e1 : ((z : Int) + l).toNat = z + l := by omega
  have e2 : ¬ cap = z := by omega
  have e3 : (z : Int) ≤ z + l := by omega
  have e4 : (z : Int) + l ≤ cap := by omega
  have e5 : (0 : Int) ≤ z + l := by omega
  have e6 : z + l - z = l := by omega
  have hU : Try.prog.underlying 24 = some (.slice (Try.prog.elem 24)) := by kernel_rfl
  have hS : (sizeOf (Try.prog.elem 24)).run Try.prog W = .ok 1 W := by kernel_rfl
  rw [run_sliceAt_slice (P := Try.prog) W _ _ _ _ _ hU, run_slice_lh (P := Try.prog) W _ _ _ _ hU .i64 .i64 z (z + l) (by omega) e3 e4, hS]
  simp [Result.andThen, sliced, e1, e2, e6, add_plain']
set_option maxRecDepth 100000 in
theorem run_cut' (W : World) (gb ob m cap z l : Nat) (h : z + l ≤ m) (hc : m ≤ cap) (hl : 0 < l) :
    (Instr.slice 24 (.slice (some ⟨gb, ob, none⟩) m cap) (some (.int .i64 z)) (some (.int .i64 ((z : Int) + l))) none).run Try.prog W = .ok (.slice (some ⟨gb, ob + z, none⟩) l (cap - z)) W := by
  have e1 : ((z : Int) + l).toNat = z + l := by omega
  have e2 : ¬ cap = z := by omega
  have e3 : (z : Int) ≤ z + l := by omega
  have e4 : (z : Int) + l ≤ cap := by omega
  have e5 : (0 : Int) ≤ z + l := by omega
  have e6 : z + l - z = l := by omega
  have hU : Try.prog.underlying 24 = some (.slice (Try.prog.elem 24)) := by kernel_rfl
  have hS : (sizeOf (Try.prog.elem 24)).run Try.prog W = .ok 1 W := by kernel_rfl
  rw [run_slice_lh (P := Try.prog) W _ _ _ _ hU .i64 .i64 z (z + l) (by omega) e3 e4, hS]
  simp [Result.andThen, sliced, e1, e2, e6, add_plain']
theorem form_at {b : Bool} {s : St} {xs : List Int} {fs : List (List Int)} (h : Form b s xs fs) {j : Nat} (hj : j < (feed b s xs).2.length) (hf : j ≤ fs.length) :
    (j < fs.length ∧ (feed b s xs).2[j]? = some (evF (fs.getD j []))) ∨ (j = fs.length ∧ (feed b s xs).1.closed = true ∧ (feed b s xs).1.kept = [] ∧ (feed b s xs).2.length = j + 1 ∧ ∃ h : Ans, ¬ h.va = 0 ∧ (feed b s xs).2[j]? = some (evV h)) := by
  rcases Nat.lt_or_ge j fs.length with hl | hl
  · refine .inl ⟨hl, ?_⟩
    have e : (fs.map evF)[j]? = some (evF (fs.getD j [])) := by simp [List.getD_eq_getElem?_getD, hl]
    rcases h.2 with ⟨_, h2, _⟩ | ⟨_, _, a, r, _, h2, _⟩
    · rw [h2]; exact e
    · rw [h2, List.getElem?_append_left (by simp; exact hl)]; exact e
  · obtain rfl : j = fs.length := by omega
    rcases h.2 with ⟨_, h2, _⟩ | ⟨k1, k2, a, r, ha, h2, _⟩
    · rw [h2] at hj; simp at hj
    · exact .inr ⟨rfl, k1, k2, by rw [h2]; simp, a, ha, by rw [h2, List.getElem?_append_right (by simp)]; simp⟩
theorem form_end {b : Bool} {s : St} {xs : List Int} {fs : List (List Int)} (h : Form b s xs fs) {j : Nat} (hj : ¬ j < (feed b s xs).2.length) (hf : j ≤ fs.length) :
    j = fs.length ∧ (feed b s xs).1.closed = false ∧ s.kept ++ xs = fs.flatten ++ (feed b s xs).1.kept := by
  rcases h.2 with ⟨h1, h2, h3⟩ | ⟨_, _, a, r, _, h2, _⟩
  · rw [h2] at hj; simp at hj
    exact ⟨by omega, h1, h3⟩
  · rw [h2] at hj; simp at hj; omega
theorem form_pre {b : Bool} {s : St} {xs : List Int} {fs : List (List Int)} (h : Form b s xs fs) : ∃ rest, s.kept ++ xs = fs.flatten ++ rest := by
  rcases h.2 with ⟨_, _, h3⟩ | ⟨_, _, a, r, _, _, h3⟩
  · exact ⟨_, h3⟩
  · exact ⟨_, h3⟩
theorem form_cut {xs : List Int} {fs : List (List Int)} {rest : List Int} (h : xs = fs.flatten ++ rest) {j : Nat} (hj : j < fs.length) :
    tot fs j + (fs.getD j []).length ≤ xs.length ∧ (xs.drop (tot fs j)).take (fs.getD j []).length = fs.getD j [] := by
  have h1 := tot_succ hj
  have h2 := tot_le fs (j + 1)
  have hx : xs = (fs.take j).flatten ++ (fs.getD j [] ++ ((fs.drop (j + 1)).flatten ++ rest)) := by
    rw [h]
    conv => lhs; rw [← List.take_append_drop (j + 1) fs]
    rw [List.flatten_append, take_flat hj]
    simp [List.append_assoc]
  refine ⟨by rw [h, List.length_append]; omega, ?_⟩
  unfold tot
  conv => lhs; rw [hx]
  simp

/-- Back and Same: the events are those of the reference. -/
theorem back_evs {w : World} {g : Nat} {K : Option Nat} {base : Nat} {v : Value} {es : List Ev} (h : EvS w g K base v es) (hn : es.length ≤ 1000000000000) :
    Calls Try.prog 37 #[v] w (fun r w' => ∃ v', r = .returned v' ∧ EvSW w' 0 v' es ∧ Below w.heap.size w w') := by
  obtain ⟨cs, h1, h2⟩ := h.part
  refine (back_any w v es.length cs es h2.weak h1 hn).mono ?_
  rintro r w' ⟨v', rfl, ho, hb⟩
  exact ⟨v', rfl, ⟨cs, own_mono ho (Nat.zero_le _), h2.weak.below hb⟩, hb⟩
theorem same_sw {w : World} {B1 B2 : Nat} {v1 v2 : Value} {es : List Ev} (h1 : EvSW w B1 v1 es) (h2 : EvSW w B2 v2 es) (hn : es.length ≤ 1000000000000) :
    Calls Try.prog 36 #[v1, v2] w (RB true w) := by
  obtain ⟨cs1, p1, l1⟩ := h1.part
  obtain ⟨cs2, p2, l2⟩ := h2.part
  exact same_evs w v1 v2 es cs1 cs2 hn p1 l1 p2 l2

set_option maxRecDepth 100000 in
set_option maxHeartbeats 4000000 in
theorem once_few (a b c d e f : Bool) (A : Option Addr) (m cap : Nat) (A' : Option Addr) (m' cap' : Nat) (w : World) (hf : fewB [m, m'] = false) :
    Calls Try.prog 12 #[.agg #[.bool a, .bool b, .bool c, .bool d, .bool e, .bool f], .slice A m cap, .slice A' m' cap'] w (RB true w) := by
  have HAL := Lib.hid (fun W : World => aliveF_any W)
  have HF := Lib.hid hf
  clear hf
  go_enter Try.func12, Try.ntmps12
  go_wp2_with fail
  refine (few2 _ A m cap A' m' cap' _ (by simp)).mono ?_
  rintro r w1 ⟨rfl, hb1⟩
  have HB1 := Lib.hid (below_then' (below_alloc (below_alloc (Below.refl _ _) _) _) hb1)
  clear hb1
  rw [HF.out]
  go_wp2_with fail
  refine (HAL.out _).mono ?_
  rintro r w2 ⟨rfl, hb2⟩
  have HB2 := Lib.hid hb2
  clear hb2
  go_wp2_with fail
  go_ret
  exact ⟨rfl, below_then' HB1.out HB2.out⟩

set_option maxRecDepth 100000 in
set_option maxHeartbeats 4000000 in
theorem once_walk (a b c d e f : Bool) (A : Option Addr) (m cap : Nat) (xs : List Int) (A' : Option Addr) (m' cap' : Nat) (ys : List Int) (w : World) (hr : RdB w (.slice A m cap) xs) (hr' : RdB w (.slice A' m' cap') ys) (hf : fewB [m, m'] = true) :
    Calls Try.prog 12 #[.agg #[.bool a, .bool b, .bool c, .bool d, .bool e, .bool f], .slice A m cap, .slice A' m' cap'] w (RB true w) := by
  have HAL := Lib.hid (fun W : World => aliveF_any W)
  have hs : m + m' ≤ 1500 := by have := (fewB_sum hf).1; simpa using this
  have HM := Lib.hid hs
  have HF := Lib.hid hf
  have HR := Lib.hid hr
  have HR' := Lib.hid hr'
  have HML := Lib.hid (And.intro hr.len.1 hr'.len.1)
  have hcap : m ≤ cap ∧ (cap : Int) ≤ 9223372036854775807 := by have := hr.len; omega
  have HCAP := Lib.hid hcap
  clear hf hs hr hr' hcap
  go_enter Try.func12, Try.ntmps12
  go_wp2_with fail
  refine (few2 _ A m cap A' m' cap' _ (by simp)).mono ?_
  rintro r w1 ⟨rfl, hb1⟩
  rw [HF.out]
  have p : ∀ (j : Nat) (u : Value), (#[.bool a, .bool b, .bool c, .bool d, .bool e, .bool f] : Array Value)[j]? = some u → w1.cell? ⟨w.heap.size, j, none⟩ = some u := fun j u hu => by
    rw [hb1.cell (by simp; omega), World.cell?_alloc_past _ _ _ (by simp), World.cell?_alloc_at _ _ _ _ rfl]; exact hu
  have hw1 : w.heap.size < w1.heap.size := by have := hb1.size; simp at this; omega
  have HP := Lib.hid p
  have HB1 := Lib.hid (below_then' (below_alloc (below_alloc (Below.refl _ _) _) _) hb1)
  have HW1 := Lib.hid hw1
  have p0 := p 0 _ rfl
  have p1 := p 1 _ rfl
  have p2 := p 2 _ rfl
  have p3 := p 3 _ rfl
  have p4 := p 4 _ rfl
  have p5 := p 5 _ rfl
  clear p hw1 hb1
  go_wp2_with fail
  refine (new_fr a b c d e f _).mono ?_
  rintro r w2 ⟨g, rfl, hg, hb2, hF⟩
  have HG := Lib.hid hg
  have HB2 := Lib.hid hb2
  have hba := below_then' HB1.out hb2
  have hav : ∀ (B : Option Addr) (n cn : Nat) (zs : List Int), RdB w (.slice B n cn) zs → Av g none B n := fun B n cn zs hr hp x hx => ⟨by
      obtain ⟨gm, om, e1, hlt⟩ := hr.lt hp
      rw [e1] at hx; injection hx with hx; rw [← hx]
      have := HG.out; have := HW1.out; show gm ≠ g; omega, nofun⟩
  have HAV := Lib.hid hav
  have HBA := Lib.hid hba
  have HFD := Lib.hid (feed_any hF A m cap xs (HR.out.below hba) (hav _ _ _ _ HR.out) (by have := HM.out; have := HML.out.1; have h0 : newSt.frames = 0 := rfl; omega) nofun)
  have HGW := Lib.hid hF.glt
  clear hg hb2 hF hba hav p0 p1 p2 p3 p4 p5
  go_wp2_with fail
  refine HFD.out.mono ?_
  rintro r w3 ⟨vl, v3, K3, rfl, hE3, hF3, hch3, hnx3⟩
  obtain ⟨fs, hfm⟩ := feed_form b xs newSt rfl
  have hcnt := feed_count b xs newSt
  obtain ⟨R, hR⟩ : ∃ R, R = feed b newSt xs := ⟨_, rfl⟩
  unfold Form at hfm
  rw [← hR] at hE3 hF3 hfm hcnt
  have HFM := Lib.hid hfm
  have HRR := Lib.hid hR
  have HE3 := Lib.hid hE3
  have HF3 := Lib.hid hF3
  have HCH3 := Lib.hid hch3
  have HNX3 := Lib.hid hnx3
  have HCNT := Lib.hid (show R.2.length ≤ 1500 by have := HM.out; have := HML.out.1; omega)
  have HFRM := Lib.hid (show 0 ≤ R.1.frames ∧ R.1.frames ≤ 1500 by
    have := HM.out; have := HML.out.1; have h0 : newSt.frames = 0 := rfl
    have hcl : R.2.countP (fun e => decide (e.va = 0)) ≤ R.2.length := List.countP_le_length
    omega)
  have q : ∀ (j : Nat) (u : Value), (#[.bool a, .bool b, .bool c, .bool d, .bool e, .bool f] : Array Value)[j]? = some u → w3.cell? ⟨w.heap.size, j, none⟩ = some u := fun j u hu => by
    rw [hch3.cell (by have := HW1.out; have := HB2.out.size; show w.heap.size < w2.heap.size; omega) (by have := HG.out; have := HW1.out; show w.heap.size ≠ g; omega) nofun, HB2.out.cell HW1.out]; exact HP.out j u hu
  have q0 := q 0 _ rfl
  have q1 := q 1 _ rfl
  have q2 := q 2 _ rfl
  have q3 := q 3 _ rfl
  have q4 := q 4 _ rfl
  have q5 := q 5 _ rfl
  have HR3 := Lib.hid ((HR.out.below HBA.out).ch (HAV.out _ _ _ _ HR.out) hch3)
  clear q hfm hR hE3 hF3 hch3 hnx3 hcnt HFD
  go_wp2_with fail
  have HRF := Lib.hid (rfeed_any (w := w3) (s := newSt) (a := a) (b := b) (c := c) (d := d) (e := e) (f := f) none 0 0 (RdB.nil _ _ _ ⟨by omega, fun _ => rfl⟩) A m cap xs HR3.out (by simp [newSt]; have := HM.out; have := HML.out; omega) (by simp [newSt]; have := HM.out; have := HML.out; omega))
  refine HRF.out.mono ?_
  rintro r w4 ⟨A4, m4, c4, v4, rfl, hr4, hf4, hE4, hb4⟩
  rw [← HRR.out] at hE4 hr4 ⊢
  have HB4 := Lib.hid hb4
  have HE4 := Lib.hid hE4
  clear q0 q1 q2 q3 q4 q5 hr4 hf4 hE4 hb4 HRF
  go_wp2_with fail
  have hba4 := below_alloc HB4.out (.cells #[.bool a, .bool b, .bool c, .bool d, .bool e, .bool f, .slice A4 m4 c4, .int .i64 R.1.len, .bool R.1.closed, .int .i64 R.1.frames] 56)
  have HBA4 := Lib.hid hba4
  have HBK := Lib.hid (back_evs (HE3.out.ch (Ch.of hba4) (Nx.refl _ _)) (by have := HCNT.out; omega))
  clear hba4
  refine HBK.out.mono ?_
  rintro r w5 ⟨vB, rfl, hE5, hb5⟩
  have HE5 := Lib.hid hE5
  have HB5 := Lib.hid (below_then' HBA4.out hb5)
  have HE45 := Lib.hid ((HE4.out.below (below_alloc (Below.refl _ _) _)).below hb5)
  clear hE5 hb5 HBK
  go_wp2_with fail
  refine (same_sw HE5.out HE45.out (by have := HCNT.out; omega)).mono ?_
  rintro r w6 ⟨rfl, hb6⟩
  have HB6 := Lib.hid hb6
  have HE6 := Lib.hid (HE45.out.below hb6)
  clear hb6
  obtain ⟨A6, c6, rfl⟩ := HE6.out.form
  obtain ⟨n, hn⟩ : ∃ n, n = R.2.length := ⟨_, rfl⟩
  rw [← hn]
  have HN := Lib.hid hn
  clear hn
  have hfm := HFM.out
  have HFO := Lib.hid (show Form b newSt xs fs by unfold Form; rw [← HRR.out]; exact hfm)
  clear hfm
  obtain ⟨cs2, hp6, hl6⟩ := HE6.out.part
  have HP6 := Lib.hid hp6
  have HL6 := Lib.hid hl6
  clear hp6 hl6
  have hn63 : (n : Int) ≤ 9223372036854775807 := by have := HN.out; have := HCNT.out; omega
  have HW6 := Lib.hid (show Below w3.heap.size w3 w6 from below_then' HB5.out HB6.out)
  go_wp2_with fail
  go_loopw [11, 41] (fun t i wr => ∃ (j : Nat) (z : Nat), j ≤ n ∧ i = .int .i64 j ∧ t = .int .i64 z ∧ j ≤ fs.length ∧ z = tot fs j ∧ Below w6.heap.size w6 wr) (fun _ i _ => n - (intOf i).toNat)
  case atStart => exact ⟨0, 0, by omega, rfl, rfl, by omega, by simp [tot], Below.refl _ _⟩
  case round =>
    obtain ⟨j, z, hj, rfl, rfl, hjf, hz, hb⟩ := hrel
    have HB := Lib.hid hb
    have HZ := Lib.hid hz
    have HJF := Lib.hid hjf
    clear hb hz hjf
    by_cases hlt : j < n
    · have jn : (j : Int) < n := by omega
      obtain ⟨gW, eA, hgW, hcW⟩ : ∃ g, A6 = some ⟨g, 0, none⟩ ∧ g < w6.heap.size ∧ ∀ j u, cs2[j]? = some u → w6.cell? ⟨g, j, none⟩ = some u := by
        rcases HP6.out.2.2 with ⟨e, e0⟩ | ⟨g', c', e, hc, hg, hq⟩
        · have := HN.out; omega
        · injection e with e1 e2 e3
          exact ⟨g', e1, hg, hq⟩
      subst eA
      have hfa := form_at HFO.out (j := j) (by have := HN.out; rw [← HRR.out]; omega) HJF.out
      rw [← HRR.out] at hfa
      rcases hfa with ⟨hjl, hes⟩ | ⟨hje, hcl, hk, hlen, h, hva, hes⟩
      · obtain ⟨F, cf, D, cd, k0, k1, k2, k3, k4, k5, hrF, hrD⟩ := EvW.at HL6.out hes
        obtain ⟨fr, hfr⟩ : ∃ fr, fr = fs.getD j [] := ⟨_, rfl⟩
        rw [← hfr] at k0 k1 k2 k3 k4 k5 hrF hrD
        obtain ⟨l, hl⟩ : ∃ l, l = fr.length := ⟨_, rfl⟩
        have k0' := (hcW _ _ k0)
        have k1' := (hcW _ _ k1)
        have k2' := (hcW _ _ k2)
        have k3' := (hcW _ _ k3)
        have k4' := (hcW _ _ k4)
        have k5' := (hcW _ _ k5)
        rw [← HB.out.cell (by exact hgW)] at k0' k1' k2' k3' k4' k5'
        simp only [evF, List.length_nil] at k0' k1' k2' k3' k4' k5' hrF
        rw [← hl] at k0' hrF
        have hl19 : 19 ≤ l := by rw [hl, hfr]; exact HFM.out.1 _ (by rw [List.getD_eq_getElem?_getD, List.getElem?_eq_getElem hjl]; exact List.getElem_mem hjl)
        obtain ⟨rest, hpre⟩ := form_pre HFO.out
        have hcut := form_cut (xs := xs) hpre hjl
        rw [← HZ.out, ← hfr, ← hl] at hcut
        have hzm : z + l ≤ m := by have := HML.out.1; omega
        obtain ⟨gb, ob, eB, hgb⟩ := HR.out.lt (by omega)
        subst eB
        have HFRW := Lib.hid (fun W (hb : Below wr.heap.size wr W) => hrF.below (HB.out.trans (hb.mono HB.out.size)))
        have HRW := Lib.hid (fun W (hb : Below wr.heap.size wr W) => show RdB W (.slice (some ⟨gb, ob + z, none⟩) l (cap - z)) fr from by
          have h1 := (HR3.out.below HW6.out).below (HB.out.trans (hb.mono HB.out.size))
          have h2 := h1.sub z l hzm (by omega)
          rw [hcut.2] at h2
          exact h2)
        have HFR := Lib.hid hfr
        have HLL := Lib.hid hl
        have HJL := Lib.hid hjl
        obtain ⟨S, hS⟩ : ∃ S, S = fun w' => Below (wr.alloc (.cells #[.slice F l cf, .int .i64 0, .int .i64 0, .int .i64 0, .slice D 0 cd, .int .i64 0] 77)).heap.size (wr.alloc (.cells #[.slice F l cf, .int .i64 0, .int .i64 0, .int .i64 0, .slice D 0 cd, .int .i64 0] 77)) w' := ⟨_, rfl⟩
        have HSP := Lib.hid (show ∀ x, S x → Below (wr.alloc (.cells #[.slice F l cf, .int .i64 0, .int .i64 0, .int .i64 0, .slice D 0 cd, .int .i64 0] 77)).heap.size (wr.alloc (.cells #[.slice F l cf, .int .i64 0, .int .i64 0, .int .i64 0, .slice D 0 cd, .int .i64 0] 77)) x by rw [hS]; exact fun _ h => h)
        have HSS := Lib.hid (show S (wr.alloc (.cells #[.slice F l cf, .int .i64 0, .int .i64 0, .int .i64 0, .slice D 0 cd, .int .i64 0] 77)).drew by rw [hS]; exact (Below.refl _ _).drew)
        have HX := Lib.hid (show ∀ x1 x2, S x1 → Below x1.heap.size x1 x2 → S x2 from by rw [hS]; exact fun x1 x2 h hb => below_then' h hb)
        have HPB := Lib.hid (show ∀ p : Wld S, Below wr.heap.size wr p.w from fun p => below_then' (below_alloc (Below.refl _ _) _) (HSP.out _ p.ok))
        have c0 : ∀ p : Wld S, p.w.cell? ⟨wr.heap.size, 0, none⟩ = some (.slice F l cf) := fun p => by
          rw [(HSP.out _ p.ok).cell (by simp), World.cell?_alloc_at _ _ _ _ rfl]; rfl
        have HEQ := Lib.hid (fun p : Wld S => equalB_any p.w _ _ fr fr (HRW.out _ (HPB.out p)) (HFRW.out _ (HPB.out p)))
        rw [show (fr == fr) = true by simp] at HEQ
        have hwz : IntKind.i64.wrap ((z : Int) + l) = z + l := by rw [IntKind.wrap_i64]; have := HM.out; omega
        have hdec : decide ((m : Int) < z + l) = false := by simp; omega
        have hzc : (z : Int) + l ≤ cap := by have := HCAP.out.1; omega
        have hcap63 : (cap : Int) ≤ 9223372036854775807 := HCAP.out.2
        have hcr := fun W => run_cut W gb ob m cap z l hzm HCAP.out.1 (by omega)
        have hcr' := fun W => run_cut' W gb ob m cap z l hzm HCAP.out.1 (by omega)
        have HZM := Lib.hid (And.intro hzm hl19)
        clear k0 k1 k2 k3 k4 k5 hrF hrD hcut hpre hgb hS hes hjl hl hfr hl19 hgW hcW
        go_wp2_with fail
        have hne1 : Nonempty (Wld S) := ⟨⟨_, HSS.out⟩⟩
        refine wp_region_sub S (by kernel_rfl) (by kernel_rfl) HSS.out ?_
        repeat (quiet_step (first | (go_at_call 16; exact calls_sub HX.out (HEQ.out _))))
        refine wpQuiet_nil ?_
        intro _ hw'
        obtain ⟨pq, hw''⟩ := hw'
        subst hw''
        have d0 := c0 pq
        clear c0 hcr hcr'
        go_wp2_with fail
        go_round
        case rel =>
          exact ⟨j + 1, z + l, by omega, by go_num, by go_num, by have := HJL.out; omega, by rw [tot_succ HJL.out, ← HFR.out, ← HLL.out, HZ.out], HB.out.trans ((HPB.out pq).mono HB.out.size)⟩
        case measure => simp [intOf]; omega
      · obtain ⟨F, cf, D, cd, k0, k1, k2, k3, k4, k5, hrF, hrD⟩ := EvW.at HL6.out hes
        have k0' := (hcW _ _ k0)
        have k1' := (hcW _ _ k1)
        have k2' := (hcW _ _ k2)
        have k3' := (hcW _ _ k3)
        have k4' := (hcW _ _ k4)
        have k5' := (hcW _ _ k5)
        rw [← HB.out.cell (by exact hgW)] at k0' k1' k2' k3' k4' k5'
        simp only [evV, List.length_nil] at k0' k1' k2' k3' k4' k5'
        obtain ⟨dl, hdl⟩ : ∃ dl, dl = h.ds.length := ⟨_, rfl⟩
        obtain ⟨va, hvv⟩ : ∃ va, va = h.va := ⟨_, rfl⟩
        obtain ⟨vb, hvb⟩ : ∃ va, va = h.vb := ⟨_, rfl⟩
        obtain ⟨vc, hvc⟩ : ∃ va, va = h.vc := ⟨_, rfl⟩
        obtain ⟨ve, hve⟩ : ∃ va, va = h.ve := ⟨_, rfl⟩
        rw [← hdl] at k4'
        rw [← hvv] at k1' hva
        rw [← hvb] at k2'
        rw [← hvc] at k3'
        rw [← hve] at k5'
        have hv : (va != 0) = true := by simp [hva]
        have hnj : n = j + 1 := by have := HN.out; omega
        have hw1 : IntKind.i64.wrap ((n : Int) - 1) = j := by rw [IntKind.wrap_i64]; omega
        have HW36 := Lib.hid (show Below w3.heap.size w3 wr from HW6.out.trans (HB.out.mono HW6.out.size))
        have HCD := Lib.hid (fun W (hb : Below w3.heap.size w3 W) => closed_any (HF3.out.below hb))
        rw [hcl] at HCD
        have HHD := Lib.hid (fun W (hb : Below w3.heap.size w3 W) => held_any (HF3.out.below hb))
        rw [hk] at HHD
        have HCL := Lib.hid hcl
        have hry := (HR'.out.below HBA.out).ch (HAV.out _ _ _ _ HR'.out) HCH3.out
        have hay := (HAV.out _ _ _ _ HR'.out).nx (HR'.out.below HBA.out) HNX3.out
        have HFM := Lib.hid (fun W (hb : Below w3.heap.size w3 W) => feed_any (HF3.out.below hb) A' m' cap' ys (hry.below hb) hay (by have := HFRM.out; have := HML.out.2; have := HM.out; omega) (HNX3.out.gt nofun HGW.out))
        clear k0 k1 k2 k3 k4 k5 hrF hrD hgW hcW hes hcl hk hry hay hdl hvv hvb hvc hve hva hje hlen hnj
        go_wp2_with fail
        refine (HAL.out _).mono ?_
        rintro r w7 ⟨rfl, hb7⟩
        have HB7 := Lib.hid (below_then' (below_alloc HW36.out _) hb7)
        clear hb7
        go_wp2_with fail
        refine (HCD.out _ HB7.out).mono ?_
        rintro r w8 ⟨rfl, hb8⟩
        have HB8 := Lib.hid (below_then' HB7.out hb8)
        clear hb8
        go_wp2_with fail
        refine (HHD.out _ HB8.out).mono ?_
        rintro r w9 ⟨rfl, hb9⟩
        have HB9 := Lib.hid (below_then' HB8.out hb9)
        clear hb9
        go_wp2_with fail
        refine (HFM.out _ HB9.out).mono ?_
        rintro r w10 ⟨vE, v10, K10, rfl, hE10, hF10, hch10, hnx10⟩
        rw [feed_closed HCL.out] at hE10 hF10
        obtain ⟨AE, cE, rfl⟩ := hE10.form
        have HCH10 := Lib.hid (show Ch g none w2 w10 from (HCH3.out.below HB9.out).trans hch10 (show Nx w2 none K3 from HNX3.out))
        have h8 := (hF10.cs.2 8 (by omega)).1
        simp only [frV, HCL.out, if_true] at h8
        have HCLO := Lib.hid (close_done g w10 hF10.glt h8)
        clear hE10 hF10 hch10 hnx10 h8
        go_wp2_with fail
        refine HCLO.out.mono ?_
        rintro r w11 ⟨rfl, hb11⟩
        have HB11 := Lib.hid hb11
        clear hb11
        go_wp2_with fail
        go_ret
        refine ⟨rfl, ?_⟩
        have h1 := HCH10.out.below HB11.out
        exact HBA.out.trans (h1.bel HBA.out.size (by have := HG.out; have := HW1.out; omega) (fun k hk => by cases hk))
    · have jn : ¬ (j : Int) < n := by omega
      have hfe := form_end HFO.out (j := j) (by have := HN.out; rw [← HRR.out]; omega) HJF.out
      rw [← HRR.out] at hfe
      obtain ⟨hje, hcl, hpre⟩ := hfe
      obtain ⟨L, hL⟩ : ∃ L, L = R.1.kept.length := ⟨_, rfl⟩
      have hzl : z + L = m := by
        have h1 := congrArg List.length hpre
        have h2 : tot fs j = fs.flatten.length := by unfold tot; rw [tot_all hje]
        have h3 : newSt.kept.length = 0 := rfl
        have := HZ.out
        have := HML.out.1
        rw [List.length_append, List.length_append] at h1
        omega
      have hwm : IntKind.i64.wrap ((m : Int) - z) = L := by rw [IntKind.wrap_i64]; have := HM.out; omega
      have HW36 := Lib.hid (show Below w3.heap.size w3 wr from HW6.out.trans (HB.out.mono HW6.out.size))
      have HCD := Lib.hid (fun W (hb : Below w3.heap.size w3 W) => closed_any (HF3.out.below hb))
      rw [hcl] at HCD
      have HHD := Lib.hid (fun W (hb : Below w3.heap.size w3 W) => held_any (HF3.out.below hb))
      rw [← hL] at HHD
      clear hL hzl hpre hcl hje
      go_wp2_with fail
      refine (HAL.out _).mono ?_
      rintro r w7 ⟨rfl, hb7⟩
      have HB7 := Lib.hid (below_then' HW36.out hb7)
      clear hb7
      go_wp2_with fail
      refine (HHD.out _ HB7.out).mono ?_
      rintro r w8 ⟨rfl, hb8⟩
      have HB8 := Lib.hid (below_then' HB7.out hb8)
      clear hb8
      go_wp2_with fail
      refine (HCD.out _ HB8.out).mono ?_
      rintro r w9 ⟨rfl, hb9⟩
      have HB9 := Lib.hid (below_then' HB8.out hb9)
      clear hb9
      go_wp2_with fail
      go_ret
      refine ⟨rfl, ?_⟩
      have h1 := HCH3.out.below HB9.out
      exact HBA.out.trans (h1.bel HBA.out.size (by have := HG.out; have := HW1.out; omega) (fun k hk => by cases hk))

set_option maxRecDepth 100000 in
theorem once_any (a b c d e f : Bool) (A : Option Addr) (m cap : Nat) (xs : List Int) (A' : Option Addr) (m' cap' : Nat) (ys : List Int) (w : World) (hr : m ≤ maxB → RdB w (.slice A m cap) xs) (hr' : m' ≤ maxB → RdB w (.slice A' m' cap') ys) :
    Calls Try.prog 12 #[.agg #[.bool a, .bool b, .bool c, .bool d, .bool e, .bool f], .slice A m cap, .slice A' m' cap'] w (RB true w) := by
  cases hf : fewB [m, m'] with
  | false => exact once_few a b c d e f A m cap A' m' cap' w hf
  | true =>
    have hs : m + m' ≤ 1500 := by have := (fewB_sum hf).1; simpa using this
    exact once_walk a b c d e f A m cap xs A' m' cap' ys w (hr (by unfold maxB; omega)) (hr' (by unfold maxB; omega)) hf

end Go.Proofs.Ytdiiolbkjmhmdaa
