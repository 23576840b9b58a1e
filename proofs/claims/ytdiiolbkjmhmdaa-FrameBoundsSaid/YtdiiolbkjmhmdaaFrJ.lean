/- The framer's Feed. -/
import Derived.Test.YtdiiolbkjmhmdaaFrI
import Derived.Test.YtdiiolbkjmhmdaaFrH
namespace Go.Proofs.Ytdiiolbkjmhmdaa
open Go.RowKit
set_option linter.unusedSimpArgs false
set_option linter.unusedVariables false

theorem one_count (b : Bool) (s : St) (c : Int) : (one b s c).1.frames = s.frames + ((one b s c).2.countP (fun e => decide (e.va = 0)) : Nat) ∧ (one b s c).2.length ≤ 1 := by
  unfold one
  split
  · split
    · rename_i h; simp [evV, h]
    · split
      · simp [evF]
      · simp
  · split
    · simp [evF]
    · simp
theorem feed_count (b : Bool) : ∀ (xs : List Int) (s : St), (feed b s xs).1.frames = s.frames + ((feed b s xs).2.countP (fun e => decide (e.va = 0)) : Nat) ∧ (feed b s xs).2.length ≤ xs.length
  | [], s => by simp [feed]
  | c :: r, s => by
    by_cases h : s.closed = true
    · rw [feed_closed h]; simp
    · rw [feed_cons h]
      have h1 := one_count b s c
      have h2 := feed_count b r (one b s c).1
      simp only [List.countP_append, List.length_append, List.length_cons]
      omega

theorem EvL.ones {w : World} {g : Nat} {K : Option Nat} {cs : List Value} {es : List Ev} (h : EvL w g K cs es) : ∀ u ∈ cs, u.oneCell' = true := fun u hu => by
  obtain ⟨j, hj, e⟩ := List.mem_iff_getElem.1 hu
  have hi : j / 6 < es.length := by have := h.1; omega
  obtain ⟨F, cf, D, cd, q0, q1, q2, q3, q4, q5, -⟩ := EvC.at h (List.getElem?_eq_getElem hi)
  have e' : cs[j]? = some u := by rw [List.getElem?_eq_getElem hj, e]
  have hj6 : j = j / 6 * 6 + j % 6 := by omega
  have hm : j % 6 < 6 := by omega
  generalize j % 6 = r at hj6 hm
  rw [hj6] at e'
  match r, hm with
  | 0, _ => rw [show j / 6 * 6 + 0 = j / 6 * 6 from rfl, q0] at e'; injection e' with e'; rw [← e']; rfl
  | 1, _ => rw [q1] at e'; injection e' with e'; rw [← e']; rfl
  | 2, _ => rw [q2] at e'; injection e' with e'; rw [← e']; rfl
  | 3, _ => rw [q3] at e'; injection e' with e'; rw [← e']; rfl
  | 4, _ => rw [q4] at e'; injection e' with e'; rw [← e']; rfl
  | 5, _ => rw [q5] at e'; injection e' with e'; rw [← e']; rfl
theorem EvS.part {w : World} {g : Nat} {K : Option Nat} {base : Nat} {v : Value} {es : List Ev} (h : EvS w g K base v es) : ∃ cs, EvP w v es.length cs ∧ EvL w g K cs es := by
  obtain ⟨cs, h1, h2, h3⟩ := h
  refine ⟨cs, ⟨h2.1, h2.ones, ?_⟩, h2⟩
  have hc := h1.2
  rcases hc with ⟨e, hn⟩ | ⟨g', cap, cur, e, hb, hg, hcap, hr⟩
  · refine .inl ⟨e, ?_⟩
    first | exact hn | (have := h2.1; rw [hn] at this; simp at this; omega)
  · exact .inr ⟨g', cap, e, hcap, (Array.getElem?_eq_some_iff.1 hg).1, fun j u hu => by have := h1.cells (g := g') (by rw [e]; rfl) j u hu; rwa [add_plain', Nat.zero_add] at this⟩
def CatEv (g : Nat) (K : Option Nat) (es : List Ev) (w : World) (r : Ending) (w' : World) : Prop := ∃ v, r = .returned v ∧ EvS w' g K w.heap.size v es ∧ Below w.heap.size w w'
theorem cat_ev {w : World} {g : Nat} {K : Option Nat} {b1 b2 : Nat} {p c : Nat} {v1 v2 : Value} {es fs : List Ev} (h1 : w.cell? ⟨p, 0, none⟩ = some v1) (h2 : w.cell? ⟨p, 1, none⟩ = some v2) (hp : p < w.heap.size) (e1 : EvS w g K b1 v1 es) (e2 : EvS w g K b2 v2 fs)
    (hg : g < w.heap.size) (hK : ∀ k, K = some k → k < w.heap.size) (hn : es.length + fs.length ≤ 1000000000000) :
    Calls Try.prog 56 #[.slice (some ⟨p, 0, none⟩) 2 c] w (CatEv g K (es ++ fs) w) := by
  obtain ⟨cs1, p1, l1⟩ := e1.part
  obtain ⟨cs2, p2, l2⟩ := e2.part
  refine (concatE w p c v1 v2 _ _ cs1 cs2 h1 h2 hp p1 p2 hn).mono ?_
  rintro r w' ⟨v, rfl, ho, hb⟩
  refine ⟨v, rfl, ⟨cs1 ++ cs2, by rw [List.length_append]; exact ho, (l1.append l2).ch (Ch.of hb) (Nx.refl _ _), fun k hk => ?_⟩, hb⟩
  have hk' := (ho.lt k hk).1
  exact ⟨by omega, fun e => by have := hK k e.symm; omega⟩

def lenV : Value → Nat
  | .slice _ n _ => n
  | _ => 0
/-- What Feed leaves. -/
def FeedP (b : Bool) (g : Nat) (K : Option Nat) (s : St) (a b' c d e f : Bool) (bs : List Int) (w : World) (r : Ending) (w' : World) : Prop :=
  ∃ v v' K', r = .returned v ∧ EvS w' g K' w.heap.size v (feed b s bs).2 ∧ Fr w' g K' v' (feed b s bs).1 a b' c d e f ∧ Ch g K w w' ∧ Nx w K K'

set_option maxRecDepth 100000 in
set_option maxHeartbeats 2000000 in
theorem feed_any {g : Nat} {K : Option Nat} {v : Value} {s : St} {a b c d e f : Bool} {w : World} (h : Fr w g K v s a b c d e f) (A : Option Addr) (m cm : Nat) (bs : List Int) (hr : RdB w (.slice A m cm) bs) (hav : Av g K A m) (hfr : 0 ≤ s.frames ∧ s.frames + bs.length ≤ 1000000000000) (hKg : ∀ k, K = some k → g < k) :
    Calls Try.prog 30 #[.pointer (some ⟨g, 0, none⟩), .slice A m cm] w (FeedP b g K s a b c d e f bs w) := by
  have HFR := Lib.hid hfr
  have HKG := Lib.hid hKg
  clear hKg
  have HH := Lib.hid h
  have HR := Lib.hid hr
  have HAV := Lib.hid hav
  clear hfr h hr hav
  go_enter Try.func30, Try.ntmps30
  go_wp2_with fail
  go_loopw [1, 5] (fun t1 t5 wr => ∃ A' m' cm' rest v' K' s' es, t1 = .slice A' m' cm' ∧ RdB wr (.slice A' m' cm') rest ∧ Av g K' A' m' ∧ EvS wr g K' w.heap.size t5 es ∧ Fr wr g K' v' s' a b c d e f ∧ Ch g K w wr ∧ Nx w K K' ∧ feed b s bs = ((feed b s' rest).1, es ++ (feed b s' rest).2)) (fun t1 _ wr => lenV t1)
  case atStart => exact ⟨A, m, cm, bs, v, K, s, [], rfl, HR.out, HAV.out, EvS.nil _ _ _ _, HH.out, Ch.refl _ _ _, Nx.refl _ _, rfl⟩
  case round =>
    obtain ⟨A', m', cm', rest, v', K', s', es, rfl, hr1, hav1, hes, hF, hch, hnx, hfeed⟩ := hrel
    have hml := hr1.len
    obtain ⟨E0, ec, rfl⟩ := hes.form
    have HR1 := Lib.hid hr1
    have HAV1 := Lib.hid hav1
    have HES := Lib.hid hes
    have HF := Lib.hid hF
    have HCH := Lib.hid hch
    have HNX := Lib.hid hnx
    have HFE := Lib.hid hfeed
    have hm63 : (m' : Int) ≤ 9223372036854775807 := by have := hml.2; omega
    have HML := Lib.hid hml
    clear hr1 hav1 hes hF hch hnx hfeed hml HR HAV
    by_cases hm0 : m' = 0
    · subst hm0
      go_wp2_with fail
      go_ret
      have hrest : rest = [] := List.eq_nil_of_length_eq_zero (by have := HML.out.1; omega)
      have hfe := HFE.out
      rw [hrest] at hfe
      rw [show feed b s' [] = (s', []) from rfl, List.append_nil] at hfe
      refine ⟨_, v', K', rfl, ?_, ?_, HCH.out, HNX.out⟩
      · rw [hfe]; exact HES.out
      · rw [hfe]; exact HF.out
    · have hpos : (0 : Int) < m' := by omega
      obtain ⟨gm, om, e, hlt⟩ := HR1.out.lt (by omega)
      subst e
      have HCL := Lib.hid (closed_any HF.out)
      by_cases hc : s'.closed = true
      · rw [hc] at HCL
        have HC := Lib.hid hc
        clear hc hlt
        go_wp2_with fail
        refine HCL.out.mono ?_
        rintro r w1 ⟨rfl, hb⟩
        have HB := Lib.hid hb
        clear hb
        go_wp2_with fail
        go_ret
        have hfe := HFE.out
        rw [feed_closed HC.out, List.append_nil] at hfe
        refine ⟨_, v', K', rfl, ?_, ?_, HCH.out.below HB.out, HNX.out⟩
        · rw [hfe]; exact HES.out.ch (Ch.of HB.out) (Nx.refl _ _)
        · rw [hfe]; exact HF.out.below HB.out
      · have hc' : s'.closed = false := by simpa using hc
        rw [hc'] at HCL
        have HC := Lib.hid hc'
        have hcnt := feed_count b bs s
        have hcnt2 := feed_count b rest s'
        rw [HFE.out] at hcnt
        simp only [List.countP_append, List.length_append] at hcnt
        have hes0 : es.countP (fun e => decide (e.va = 0)) ≤ es.length := List.countP_le_length
        have hFRn : 0 ≤ s'.frames ∧ s'.frames ≤ 4611686018427387904 := by have := HFR.out; omega
        have HFN := Lib.hid hFRn
        have HM0 := Lib.hid (show 0 < m' by omega)
        clear hc hc' hlt hcnt hcnt2 hes0 hFRn
        go_wp2_with fail
        refine HCL.out.mono ?_
        rintro r w1 ⟨rfl, hb⟩
        have HST := Lib.hid (step_any (HF.out.below hb) HC.out HFN.out gm om m' cm' rest (HR1.out.below hb) HAV1.out HM0.out (HNX.out.gt HKG.out HH.out.glt))
        have HB := Lib.hid hb
        clear hb HCL
        go_wp2_with fail
        refine HST.out.mono ?_
        rintro r w2 ⟨M, mM, cM, O, no, co, v2, K2, s2, rest2, evs, rfl, hM, hno, hr2, hav2, hes2, hF2, hch2, hnx2, hg2⟩
        have HX := Lib.hid (And.intro hM (And.intro hno (And.intro hr2 (And.intro hav2 (And.intro hes2 (And.intro hF2 (And.intro hch2 (And.intro hnx2 hg2))))))))
        clear hM hno hr2 hav2 hes2 hF2 hch2 hnx2 hg2 HST
        go_wp2_with fail
        have hba := below_alloc (Below.refl w2.heap.size w2) (.cells #[.slice E0 es.length ec, .slice O no co] 53)
        have hes1 : EvS w2 g K2 w.heap.size (.slice E0 es.length ec) es := (HES.out.ch (Ch.of HB.out) (Nx.refl _ _)).ch HX.out.2.2.2.2.2.2.1 HX.out.2.2.2.2.2.2.2.1
        have hbound : es.length + evs.length ≤ 1000000000000 := by
          have h1 := (feed_count b bs s).2
          rw [HFE.out, HX.out.2.2.2.2.2.2.2.2.2.2.2.1] at h1
          simp only [List.length_append] at h1
          have := HFR.out
          omega
        have HCAT := Lib.hid (cat_ev (w := w2.alloc (.cells #[.slice E0 es.length ec, .slice O no co] 53)) (g := g) (K := K2) (p := w2.heap.size) (c := 2) (by rw [World.cell?_alloc_at _ _ _ _ rfl]; rfl) (by rw [World.cell?_alloc_at _ _ _ _ rfl]; rfl) (by simp) (hes1.ch (Ch.of hba) (Nx.refl _ _)) (HX.out.2.2.2.2.1.ch (Ch.of hba) (Nx.refl _ _)) (by have := HX.out.2.2.2.2.2.1.glt; simp; omega) (fun k hk => by have := HX.out.2.2.2.2.2.1.lt k hk; simp; omega) hbound)
        have HBA := Lib.hid hba
        clear hba hes1 hbound
        refine HCAT.out.mono ?_
        rintro r w3 ⟨v3, rfl, hE3, hB3⟩
        have HE3 := Lib.hid hE3
        have HB3 := Lib.hid hB3
        clear hE3 hB3 HCAT
        go_wp2_with fail
        go_roundw
        case rel =>
          obtain ⟨hM, hno, hr2, hav2, hes2, hF2, hch2, hnx2, hg2⟩ := HX.out
          have hb23 : Below w2.heap.size w2 w3 := below_then' HBA.out HB3.out
          have hchw : Ch g K w w2 := (HCH.out.below HB.out).trans hch2 HNX.out
          obtain ⟨cs, e1, e2, e3⟩ := HE3.out
          refine ⟨M, mM, cM, rest2, v2, K2, s2, es ++ evs, rfl, hr2.below hb23, hav2, ⟨cs, own_mono e1 (by have := hchw.size; simp; omega), e2, e3⟩, hF2.below hb23, hchw.below hb23, HNX.out.trans (show Nx wr K' K2 from ?_) HCH.out.size, ?_⟩
          · rcases hnx2 with h | h | ⟨k, h, hk⟩
            · exact .inl h
            · exact .inr (.inl h)
            · exact .inr (.inr ⟨k, h, Nat.le_trans HB.out.size hk⟩)
          · rw [HFE.out, hg2.2.2.2.1]; simp [List.append_assoc]
        case measure =>
          have h1 := HX.out.1
          have h2 := HX.out.2.2.2.2.2.2.2.2.2.1
          have h3 := HML.out.1
          simp [lenV]; omega

end Go.Proofs.Ytdiiolbkjmhmdaa
