/- Close and fail in the midst of a step. -/
import Derived.Test.YtdiiolbkjmhmdaaFrG
namespace Go.Proofs.Ytdiiolbkjmhmdaa
open Go.RowKit
set_option linter.unusedSimpArgs false
set_option linter.unusedVariables false

set_option maxRecDepth 100000 in
set_option maxHeartbeats 1000000 in
theorem close_mid (g : Nat) (K : Option Nat) (A : Option Addr) (n c' : Nat) (s : St) (a b c d e f : Bool) (w : World) (h : FrC w g (frV (.slice A n c') s a b c d e f)) (hs : s.closed = false) :
    Calls Try.prog 40 #[.pointer (some ⟨g, 0, none⟩)] w (CloseP g K s a b c d e f w) := by
  have hmf : ∀ (fn : Fn) (first cap : Array Value) (w : World), (Instr.makeFunc fn first cap).run Try.prog w = .ok (.func fn first cap) w := fun _ _ _ _ => rfl
  have hg := h.1
  have hb0 := below_alloc (below_alloc (Below.refl w.heap.size w) (.cells #[.pointer (some ⟨g, 0, none⟩)] 51)) (.cells #[.bool false] 4)
  have h2 := h.below hb0
  have HDO := Lib.hid (do_first g w.heap.size (w.heap.size + 1) _ A n c' s.want false _ h2 rfl rfl (by simp [frV, hs]) rfl (by simp [frV, hs])
    (by rw [World.cell?_alloc_past _ _ _ (by simp), World.cell?_alloc_at _ _ _ _ rfl]; rfl) (by rw [World.cell?_alloc_at _ _ _ _ (by simp)]; rfl) (by rw [World.frozen?_alloc_at _ _ _ _ (by simp)]) (by omega) (by omega) (by omega))
  have HB0 := Lib.hid hb0
  have HGL := Lib.hid hg
  clear h h2 hb0 hs
  go_enter Try.func40, Try.ntmps40
  go_wp2_with fail
  refine HDO.out.mono ?_
  rintro r w1 ⟨rfl, hC1, hQ1, hch⟩
  have HC1 := Lib.hid hC1
  have HCH := Lib.hid hch
  clear hC1 hch HDO
  go_wp2_with fail
  go_ret
  refine ⟨rfl, ⟨HC1.out.congr (shut_frV _ _ _ _ _ _ _ _), own_nil _ _ _ _, rfl, nofun, Ok.shut s⟩, ?_⟩
  have h0 : Ch g K w ((w.alloc (.cells #[.pointer (some ⟨g, 0, none⟩)] 51)).alloc (.cells #[.bool false] 4)) := Ch.of HB0.out
  exact h0.trans HCH.out (.inr (.inr ⟨_, rfl, by omega⟩))
set_option maxRecDepth 100000 in
set_option maxHeartbeats 1000000 in
theorem failF_mid {g : Nat} {K : Option Nat} {A : Option Addr} {n c' : Nat} {s : St} {a b c d e f : Bool} {w : World} (h : FrC w g (frV (.slice A n c') s a b c d e f)) (hK : ∀ k, K = some k → k < w.heap.size) (hs : s.closed = false) (va vb vc ve : Int) (D : Option Addr) (nd cd : Nat) (ds : List Int) (hnd : nd = ds.length)
    (hD : RdB w (.slice D nd cd) ds) (hav : Av g K D nd) :
    Calls Try.prog 69 #[.pointer (some ⟨g, 0, none⟩), .agg #[.int .i64 va, .int .i64 vb, .int .i64 vc, .slice D nd cd, .int .i64 ve]] w (FailP g K s a b c d e f ⟨[], va, vb, vc, ve, ds⟩ w) := by
  have hb0 := below_alloc (Below.refl w.heap.size w) (.cells #[.int .i64 va, .int .i64 vb, .int .i64 vc, .slice D nd cd, .int .i64 ve] 38)
  have CC := Lib.hid (close_mid g K A n c' s a b c d e f _ (h.below hb0) hs)
  have HL := Lib.hid hK
  have HG := Lib.hid h.1
  have HD := Lib.hid hD
  have HAV := Lib.hid hav
  have HND := Lib.hid hnd
  clear h hK hs hD hav hnd hb0
  go_enter Try.func69, Try.ntmps69
  go_wp2_with fail
  refine CC.out.mono ?_
  rintro r w1 ⟨rfl, hF, hch⟩
  have q : ∀ (j : Nat) (u : Value), (#[.int .i64 va, .int .i64 vb, .int .i64 vc, .slice D nd cd, .int .i64 ve] : Array Value)[j]? = some u → w1.cell? ⟨w.heap.size, j, none⟩ = some u := fun j u hu => by
    rw [hch.cell (p := ⟨w.heap.size, j, none⟩) (by simp) (by have := HG.out; simp; omega) (fun e => by have := HL.out _ e.symm; simp at this), World.cell?_alloc_at _ _ _ _ rfl]; exact hu
  have q0 := q 0 _ rfl
  have q1 := q 1 _ rfl
  have q2 := q 2 _ rfl
  have q3 := q 3 _ rfl
  have q4 := q 4 _ rfl
  have hch2 : Ch g K w w1 := ((Ch.refl g K w).alloc _).trans hch (Nx.refl _ _)
  have HF := Lib.hid hF
  have HCH := Lib.hid hch2
  have HD1 := Lib.hid (HD.out.ch HAV.out hch2)
  have HAV1 : Hid (Av g none D nd) := fun hp x hx => ⟨(HAV.out hp x hx).1, nofun⟩
  clear q hF hch hch2 CC
  go_wp2_with fail
  go_ret
  refine ⟨_, rfl, ?_, HF.out.below (below_alloc (Below.refl _ _) _), HCH.out.alloc _⟩
  refine EvS.lit ⟨none, 0, 0, D, nd, cd, rfl, rfl, HND.out, RdB.nil _ _ _ ⟨by omega, fun _ => rfl⟩, Av.zero _ _ _, HD1.out.below (below_alloc (Below.refl _ _) _), HAV1.out, nofun, fun h => absurd h (by omega)⟩ HF.out.glt nofun rfl HCH.out.size

end Go.Proofs.Ytdiiolbkjmhmdaa
