/- The framer's Set and fail. -/
import Derived.Test.YtdiiolbkjmhmdaaFrF
namespace Go.Proofs.Ytdiiolbkjmhmdaa
open Go.RowKit
set_option linter.unusedSimpArgs false
set_option linter.unusedVariables false

def SetP (g : Nat) (K : Option Nat) (v : Value) (s : St) (a b c d e f : Bool) (w : World) (r : Ending) (w' : World) : Prop := r = .returned (.tuple #[]) ∧ Fr w' g K v s a b c d e f ∧ Ch g K w w'
set_option maxRecDepth 100000 in
set_option maxHeartbeats 1000000 in
theorem set_any {g : Nat} {K : Option Nat} {v : Value} {s : St} {a b c d e f : Bool} {w : World} (a' b' c' d' e' f' : Bool) (h : Fr w g K v s a b c d e f) : Calls Try.prog 39 #[.pointer (some ⟨g, 0, none⟩), .agg #[.bool a', .bool b', .bool c', .bool d', .bool e', .bool f']] w (SetP g K v s a' b' c' d' e' f' w) := by
  have h1 := (h.below (below_alloc (Below.refl _ _) (.cells #[.bool a', .bool b', .bool c', .bool d', .bool e', .bool f'] 23)))
  have hg := h.glt
  have k2 : (w.alloc (.cells #[.bool a', .bool b', .bool c', .bool d', .bool e', .bool f'] 23)).cell? ⟨g, 2, none⟩ = some (.bool a) := (h1.cs.2 2 (by omega)).1
  have f2 : (w.alloc (.cells #[.bool a', .bool b', .bool c', .bool d', .bool e', .bool f'] 23)).frozen? ⟨g, 2, none⟩ = false := (h1.cs.2 2 (by omega)).2
  have k3 : (w.alloc (.cells #[.bool a', .bool b', .bool c', .bool d', .bool e', .bool f'] 23)).cell? ⟨g, 3, none⟩ = some (.bool b) := (h1.cs.2 3 (by omega)).1
  have f3 : (w.alloc (.cells #[.bool a', .bool b', .bool c', .bool d', .bool e', .bool f'] 23)).frozen? ⟨g, 3, none⟩ = false := (h1.cs.2 3 (by omega)).2
  have k4 : (w.alloc (.cells #[.bool a', .bool b', .bool c', .bool d', .bool e', .bool f'] 23)).cell? ⟨g, 4, none⟩ = some (.bool c) := (h1.cs.2 4 (by omega)).1
  have f4 : (w.alloc (.cells #[.bool a', .bool b', .bool c', .bool d', .bool e', .bool f'] 23)).frozen? ⟨g, 4, none⟩ = false := (h1.cs.2 4 (by omega)).2
  have k5 : (w.alloc (.cells #[.bool a', .bool b', .bool c', .bool d', .bool e', .bool f'] 23)).cell? ⟨g, 5, none⟩ = some (.bool d) := (h1.cs.2 5 (by omega)).1
  have f5 : (w.alloc (.cells #[.bool a', .bool b', .bool c', .bool d', .bool e', .bool f'] 23)).frozen? ⟨g, 5, none⟩ = false := (h1.cs.2 5 (by omega)).2
  have k6 : (w.alloc (.cells #[.bool a', .bool b', .bool c', .bool d', .bool e', .bool f'] 23)).cell? ⟨g, 6, none⟩ = some (.bool e) := (h1.cs.2 6 (by omega)).1
  have f6 : (w.alloc (.cells #[.bool a', .bool b', .bool c', .bool d', .bool e', .bool f'] 23)).frozen? ⟨g, 6, none⟩ = false := (h1.cs.2 6 (by omega)).2
  have k7 : (w.alloc (.cells #[.bool a', .bool b', .bool c', .bool d', .bool e', .bool f'] 23)).cell? ⟨g, 7, none⟩ = some (.bool f) := (h1.cs.2 7 (by omega)).1
  have f7 : (w.alloc (.cells #[.bool a', .bool b', .bool c', .bool d', .bool e', .bool f'] 23)).frozen? ⟨g, 7, none⟩ = false := (h1.cs.2 7 (by omega)).2
  have hgs : ¬ w.heap.size = g := by omega
  have HF1 := Lib.hid h1
  have HNE := Lib.hid (show v.ownBlock ≠ some g from fun e => h.ne (by rw [← h.blk, e]))
  clear h h1 hg
  go_enter Try.func39, Try.ntmps39
  go_wp2_with fail
  first | go_end0 | refine bodyPost_ret (results_none rfl _ _ _) rfl ?_
  refine ⟨rfl, ⟨((((((HF1.out.cs.upd 2 (.bool a')).upd 3 (.bool b')).upd 4 (.bool c')).upd 5 (.bool d')).upd 6 (.bool e')).upd 7 (.bool f')).congr (fun j hj => ?_), own_set (own_set (own_set (own_set (own_set (own_set HF1.out.own HNE.out _ _) HNE.out _ _) HNE.out _ _) HNE.out _ _) HNE.out _ _) HNE.out _ _, HF1.out.blk, HF1.out.ne, HF1.out.ok⟩, (((((((Ch.refl g K w).alloc _).set 2 _).set 3 _).set 4 _).set 5 _).set 6 _).set 7 _⟩
  match j, hj with
  | 0, _ => rfl
  | 1, _ => rfl
  | 2, _ => rfl
  | 3, _ => rfl
  | 4, _ => rfl
  | 5, _ => rfl
  | 6, _ => rfl
  | 7, _ => rfl
  | 8, _ => rfl
  | 9, _ => rfl
  | 10, _ => rfl
  | 11, _ => rfl
  | 12, _ => rfl

/-- What fail leaves. -/
def FailP (g : Nat) (K : Option Nat) (s : St) (a b c d e f : Bool) (ev : Ev) (w : World) (r : Ending) (w' : World) : Prop :=
  ∃ v', r = .returned v' ∧ EvS w' g none w.heap.size v' [ev] ∧ Fr w' g none (.slice none 0 0) (shut s) a b c d e f ∧ Ch g K w w'
set_option maxRecDepth 100000 in
set_option maxHeartbeats 1000000 in
theorem failF_any {g : Nat} {K : Option Nat} {v : Value} {s : St} {a b c d e f : Bool} {w : World} (h : Fr w g K v s a b c d e f) (hs : s.closed = false) (va vb vc ve : Int) (D : Option Addr) (nd cd : Nat) (ds : List Int) (hnd : nd = ds.length)
    (hD : RdB w (.slice D nd cd) ds) (hav : Av g K D nd) :
    Calls Try.prog 69 #[.pointer (some ⟨g, 0, none⟩), .agg #[.int .i64 va, .int .i64 vb, .int .i64 vc, .slice D nd cd, .int .i64 ve]] w (FailP g K s a b c d e f ⟨[], va, vb, vc, ve, ds⟩ w) := by
  have hb0 := below_alloc (Below.refl w.heap.size w) (.cells #[.int .i64 va, .int .i64 vb, .int .i64 vc, .slice D nd cd, .int .i64 ve] 38)
  have CC := Lib.hid (close_first g K v s a b c d e f _ (h.below hb0) hs)
  have HL := Lib.hid h.lt
  have HG := Lib.hid h.glt
  have HD := Lib.hid hD
  have HAV := Lib.hid hav
  have HND := Lib.hid hnd
  clear h hs hD hav hnd hb0
  go_enter Try.func69, Try.ntmps69
  go_wp2_with fail
  refine CC.out.mono ?_
  rintro r w1 ⟨rfl, hF, hch⟩
  have q : ∀ (j : Nat) (u : Value), (#[.int .i64 va, .int .i64 vb, .int .i64 vc, .slice D nd cd, .int .i64 ve] : Array Value)[j]? = some u → w1.cell? ⟨w.heap.size, j, none⟩ = some u := fun j u hu => by
    rw [hch.cell (p := ⟨w.heap.size, j, none⟩) (by simp) (by have := HG.out; simp; omega) (fun e => by have := HL.out _ e.symm; simp at this), World.cell?_alloc_at _ _ _ _ rfl]; exact hu
  have q0 := q 0 _ rfl
  have q1 := q 1 _ rfl
  have q2 := q 2 _ rfl
  have q3 := q 3 _ rfl
  have q4 := q 4 _ rfl
  have hch2 : Ch g K w w1 := ((Ch.refl g K w).alloc _).trans hch (Nx.refl _ _)
  have HF := Lib.hid hF
  have HCH := Lib.hid hch2
  have HD1 := Lib.hid (HD.out.ch HAV.out hch2)
  have HAV1 : Hid (Av g none D nd) := fun hp x hx => ⟨(HAV.out hp x hx).1, nofun⟩
  clear q hF hch hch2 CC
  go_wp2_with fail
  go_ret
  refine ⟨_, rfl, ?_, HF.out.below (below_alloc (Below.refl _ _) _), HCH.out.alloc _⟩
  refine EvS.lit ⟨none, 0, 0, D, nd, cd, rfl, rfl, HND.out, RdB.nil _ _ _ ⟨by omega, fun _ => rfl⟩, Av.zero _ _ _, HD1.out.below (below_alloc (Below.refl _ _) _), HAV1.out, nofun, fun h => absurd h (by omega)⟩ HF.out.glt nofun rfl HCH.out.size

end Go.Proofs.Ytdiiolbkjmhmdaa
