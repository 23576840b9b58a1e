/- The table of the kinds of messages, and the small functions over it: what each returns, in whatever memory. -/
import Derived.Test.YtdiiolbkjmhmdaaRows
import Derived.WalkKit
import Derived.WalkSpells
import Derived.ProofKit
import Derived.Laws.EntriesVeiled
import Derived.LoopTactic
import Derived.Lib.Hide
import Derived.Outline
import Derived.RegionTactic
import Derived.Deep.DeepCutAuto
import Derived.Deep.RegionHeld3
import Derived.BigQuiet
import Derived.Deep.QuietTactic
namespace Go.Proofs.Ytdiiolbkjmhmdaa
open Go.RowKit
set_option linter.unusedSimpArgs false
set_option linter.unusedVariables false

theorem own_nil (W : World) (base : Nat) (e : TypeId) (size : Nat) : W.ownsRow base e size (.slice none 0 0) 0 [] := ⟨by simp, .inl ⟨rfl, rfl⟩⟩
theorem below_alloc {w W : World} (h : Below w.heap.size w W) (o : Obj) : Below w.heap.size w (W.alloc o) := h.alloc h.size o
theorem below_alloc' {B : Nat} {w W : World} (h : Below B w W) (hB : B ≤ w.heap.size) (o : Obj) : Below B w (W.alloc o) := h.alloc (Nat.le_trans hB h.size) o
theorem below_then {B : Nat} {w w1 w2 : World} (h : Below B w w1) (hB : B ≤ w1.heap.size) (k : Below w1.heap.size w1 w2) : Below B w w2 := h.trans (k.mono hB)
theorem below_then' {w w1 w2 : World} (h : Below w.heap.size w w1) (k : Below w1.heap.size w1 w2) : Below w.heap.size w w2 := below_then h h.size k
theorem below_drewN {B : Nat} {w W : World} (h : Below B w W) (n : Nat) : Below B w (W.drewN n) := ⟨h.os, h.tape, h.output, h.size, h.block⟩
theorem grown_of_below {w w1 : World} (h : Below w.heap.size w w1) (row : Option Nat) : w.grownBy w1 row := ⟨h.os, h.tape, h.output, h.size, fun i hi _ => h.block i hi⟩
theorem own_below {w w1 : World} {base : Nat} {e : TypeId} {size n : Nat} {v : Value} {xs : List Value} (h : w.ownsRow base e size v n xs) (hb : Below w.heap.size w w1) : w1.ownsRow base e size v n xs :=
  h.kept (grown_of_below hb none) (by cases v.ownBlock <;> simp)
theorem add_plain (g j : Nat) : (⟨g, 0, none⟩ : Addr).add j = ⟨g, j, none⟩ := by unfold Addr.add; split <;> simp_all
theorem add_plain' (g o j : Nat) : (⟨g, o, none⟩ : Addr).add j = ⟨g, o + j, none⟩ := by unfold Addr.add; split <;> simp_all
theorem addr_ne {X Y i j : Nat} (h : X ≠ Y ∨ i ≠ j) : (⟨X, i, none⟩ : Addr) ≠ ⟨Y, j, none⟩ := by
  intro e
  injection e with e1 e2
  omega
theorem cell_drew (w : World) (a : Addr) : w.drew.cell? a = w.cell? a := rfl
theorem frozen_drew (w : World) (a : Addr) : w.drew.frozen? a = w.frozen? a := rfl

/-- What a function that answers a bool leaves behind. -/
def RB (x : Bool) (w : World) (r : Ending) (w' : World) : Prop := r = .returned (.bool x) ∧ Below w.heap.size w w'
/-- What a function that answers a value leaves behind. -/
def RV (x : Value) (w : World) (r : Ending) (w' : World) : Prop := r = .returned x ∧ Below w.heap.size w w'
theorem rv_eq {x y : Value} {w : World} {r : Ending} {w' : World} (h : RV x w r w') (e : y = x) : RV y w r w' := e ▸ h
theorem rb_eq {x y : Bool} {w : World} {r : Ending} {w' : World} (h : RB x w r w') (e : y = x) : RB y w r w' := e ▸ h

def leastK (k : Int) : Int := if k = 1 then 29 else if k = 2 then 23 else if k = 3 then 21 else if k = 4 then 19 else if k = 5 then 23 else 0
def limitK (x : Bool) (k : Int) : Int := if k = 1 then 4096 else if k = 2 then (if x = true then 65535 else 4096) else if k = 3 then (if x = true then 65535 else 4096) else if k = 4 then 19 else if k = 5 then 23 else 0
def mostK (x : Bool) : Int := if x = true then 65535 else 4096
def nameK (k : Int) : ByteArray := if k = 1 then ⟨#[79, 80, 69, 78]⟩ else if k = 2 then ⟨#[85, 80, 68, 65, 84, 69]⟩ else if k = 3 then ⟨#[78, 79, 84, 73, 70, 73, 67, 65, 84, 73, 79, 78]⟩ else if k = 4 then ⟨#[75, 69, 69, 80, 65, 76, 73, 86, 69]⟩ else if k = 5 then ⟨#[82, 79, 85, 84, 69, 45, 82, 69, 70, 82, 69, 83, 72]⟩ else ⟨#[]⟩
def rowK (k : Int) : Value := if k = 1 then .agg #[.string ⟨#[79, 80, 69, 78]⟩, .int .i64 29, .int .i64 4096, .bool false] else if k = 2 then .agg #[.string ⟨#[85, 80, 68, 65, 84, 69]⟩, .int .i64 23, .int .i64 4096, .bool true] else if k = 3 then .agg #[.string ⟨#[78, 79, 84, 73, 70, 73, 67, 65, 84, 73, 79, 78]⟩, .int .i64 21, .int .i64 4096, .bool true] else if k = 4 then .agg #[.string ⟨#[75, 69, 69, 80, 65, 76, 73, 86, 69]⟩, .int .i64 19, .int .i64 19, .bool false] else if k = 5 then .agg #[.string ⟨#[82, 79, 85, 84, 69, 45, 82, 69, 70, 82, 69, 83, 72]⟩, .int .i64 23, .int .i64 23, .bool false] else .agg #[.string ⟨#[]⟩, .int .i64 0, .int .i64 0, .bool false]
theorem kinds (k : Int) : k = 1 ∨ k = 2 ∨ k = 3 ∨ k = 4 ∨ k = 5 ∨ (¬ k = 1 ∧ ¬ k = 2 ∧ ¬ k = 3 ∧ ¬ k = 4 ∧ ¬ k = 5) := by omega
theorem leastK0 {k : Int} (h : ¬ k = 1 ∧ ¬ k = 2 ∧ ¬ k = 3 ∧ ¬ k = 4 ∧ ¬ k = 5) : leastK k = 0 := by simp [leastK, h]
theorem limitK0 {k : Int} {x : Bool} (h : ¬ k = 1 ∧ ¬ k = 2 ∧ ¬ k = 3 ∧ ¬ k = 4 ∧ ¬ k = 5) : limitK x k = 0 := by simp [limitK, h]
theorem nameK0 {k : Int} (h : ¬ k = 1 ∧ ¬ k = 2 ∧ ¬ k = 3 ∧ ¬ k = 4 ∧ ¬ k = 5) : nameK k = ⟨#[]⟩ := by simp [nameK, h]
theorem rowK0 {k : Int} (h : ¬ k = 1 ∧ ¬ k = 2 ∧ ¬ k = 3 ∧ ¬ k = 4 ∧ ¬ k = 5) : rowK k = .agg #[.string ⟨#[]⟩, .int .i64 0, .int .i64 0, .bool false] := by simp [rowK, h]
theorem leastK_range (k : Int) : 0 ≤ leastK k ∧ leastK k ≤ 29 := by unfold leastK; omega
theorem limitK_range (x : Bool) (k : Int) : 0 ≤ limitK x k ∧ limitK x k ≤ 65535 := by unfold limitK; cases x <;> simp <;> omega

theorem there_new (w : World) (C : Array Value) (t : TypeId) (n b : Nat) (hb : b = w.heap.size) (hn : n ≤ C.size) : (w.alloc (.cells C t)).there b 0 n := fun j hj => by
  subst hb
  refine ⟨?_, ?_⟩
  · rw [World.cell?_alloc_at _ _ _ _ rfl]; simp; omega
  · rw [World.frozen?_alloc_at _ _ _ _ rfl]
theorem below_setCells {B : Nat} {a : World} (b : Nat) (hb : B ≤ b) : ∀ (vs : List Value) (o : Nat) {w : World}, Below B a w → Below B a (w.setCells b o vs)
  | [], _, _, h => h
  | v :: r, o, _, h => below_setCells b hb r (o + 1) (h.setCell (by simpa using hb) v)
theorem results_mid {P : Program} {fn : Func} {p : Tmp} {ty : TypeId} (h : fn.results = #[.cell p ty]) (tmps : Array Value) (w : World) (b o : Nat) (cs : List Value) (d : TypeDesc)
    (hp : tmps.getD p undef = .pointer (some ⟨b, o, none⟩)) (hc : w.rangeAt b o cs) (hu : P.underlying ty = some d) (hd : d.isRow = true) (hi : (P.info? ty).map (·.size) = some cs.length) :
    (results fn tmps).run P w = .ok (.agg cs.toArray) w := by
  have hp' : tmps[p]?.getD undef = .pointer (some ⟨b, o, none⟩) := by simpa using hp
  simp [results, h, hp', asAddr, run_loadVar_mid w b o ty cs d hc hu hd hi]

def rowsV : Array Value := #[.string ⟨#[]⟩, .int .i64 0, .int .i64 0, .bool false, .string ⟨#[79, 80, 69, 78]⟩, .int .i64 29, .int .i64 4096, .bool false, .string ⟨#[85, 80, 68, 65, 84, 69]⟩, .int .i64 23, .int .i64 4096, .bool true, .string ⟨#[78, 79, 84, 73, 70, 73, 67, 65, 84, 73, 79, 78]⟩, .int .i64 21, .int .i64 4096, .bool true, .string ⟨#[75, 69, 69, 80, 65, 76, 73, 86, 69]⟩, .int .i64 19, .int .i64 19, .bool false, .string ⟨#[82, 79, 85, 84, 69, 45, 82, 69, 70, 82, 69, 83, 72]⟩, .int .i64 23, .int .i64 23, .bool false]
set_option maxRecDepth 100000 in
theorem rows_any (w : World) : Calls Try.prog 66 #[] w (RV (.agg rowsV) w) := by
  have hi : (Try.prog.info? 124).map (·.size) = some rowsV.size := by kernel_rfl
  have h1 : rowsV.all (·.oneCell') = true := by kernel_rfl
  go_enter Try.func66, Try.ntmps66
  go_wp2_with (refine wpList_store_mid rfl 124 _ _ rfl w.heap.size 0 rowsV rfl (by kernel_rfl) ?t hi h1 ?_)
  case t => exact there_new w _ _ _ _ rfl (by simp [rowsV])
  go_wp2_with fail
  refine bodyPost_ret (v := .agg rowsV) ?_ rfl ⟨rfl, below_setCells _ (Nat.le_refl _) _ _ (below_alloc (Below.refl _ _) _)⟩
  exact results_mid Try.results66 _ _ w.heap.size 0 rowsV.toList _ rfl (World.rangeAt_setCells_same _ _ _ _ (there_new w _ _ _ _ rfl (by simp [rowsV]))) Try.underlying124 rfl hi

theorem ridx0 (w : World) : (Instr.index 124 (.agg rowsV) (.int .i64 0)).run Try.prog w = .ok (.agg #[.string ⟨#[]⟩, .int .i64 0, .int .i64 0, .bool false]) w := by kernel_rfl
theorem ridx1 (w : World) : (Instr.index 124 (.agg rowsV) (.int .i64 1)).run Try.prog w = .ok (.agg #[.string ⟨#[79, 80, 69, 78]⟩, .int .i64 29, .int .i64 4096, .bool false]) w := by kernel_rfl
theorem ridx2 (w : World) : (Instr.index 124 (.agg rowsV) (.int .i64 2)).run Try.prog w = .ok (.agg #[.string ⟨#[85, 80, 68, 65, 84, 69]⟩, .int .i64 23, .int .i64 4096, .bool true]) w := by kernel_rfl
theorem ridx3 (w : World) : (Instr.index 124 (.agg rowsV) (.int .i64 3)).run Try.prog w = .ok (.agg #[.string ⟨#[78, 79, 84, 73, 70, 73, 67, 65, 84, 73, 79, 78]⟩, .int .i64 21, .int .i64 4096, .bool true]) w := by kernel_rfl
theorem ridx4 (w : World) : (Instr.index 124 (.agg rowsV) (.int .i64 4)).run Try.prog w = .ok (.agg #[.string ⟨#[75, 69, 69, 80, 65, 76, 73, 86, 69]⟩, .int .i64 19, .int .i64 19, .bool false]) w := by kernel_rfl
theorem ridx5 (w : World) : (Instr.index 124 (.agg rowsV) (.int .i64 5)).run Try.prog w = .ok (.agg #[.string ⟨#[82, 79, 85, 84, 69, 45, 82, 69, 70, 82, 69, 83, 72]⟩, .int .i64 23, .int .i64 23, .bool false]) w := by kernel_rfl

theorem of_cells {w w2 : World} {o : Obj} (ho : o = .cells #[.string ⟨#[]⟩, .int .i64 0, .int .i64 0, .bool false] 82) (hb : Below (w.alloc o).heap.size (w.alloc o) w2) :
    w2.cell? ⟨w.heap.size, 0, none⟩ = some (.string ⟨#[]⟩) ∧ w2.cell? ⟨w.heap.size, 1, none⟩ = some (.int .i64 0) ∧ w2.cell? ⟨w.heap.size, 2, none⟩ = some (.int .i64 0) ∧ w2.cell? ⟨w.heap.size, 3, none⟩ = some (.bool false) ∧ (∀ j, w2.frozen? ⟨w.heap.size, j, none⟩ = false) ∧ Below w.heap.size w w2 := by
  subst ho
  refine ⟨?_, ?_, ?_, ?_, fun j => ?_, below_then' (below_alloc (Below.refl _ _) _) hb⟩
  · rw [hb.cell (by simp), World.cell?_alloc_at _ _ _ _ rfl]; rfl
  · rw [hb.cell (by simp), World.cell?_alloc_at _ _ _ _ rfl]; rfl
  · rw [hb.cell (by simp), World.cell?_alloc_at _ _ _ _ rfl]; rfl
  · rw [hb.cell (by simp), World.cell?_alloc_at _ _ _ _ rfl]; rfl
  · rw [hb.frozen (by simp), World.frozen?_alloc_at _ _ _ _ rfl]

set_option maxRecDepth 100000 in
theorem of_1 (w : World) : Calls Try.prog 45 #[.int .i64 1] w (RV (.agg #[.string ⟨#[79, 80, 69, 78]⟩, .int .i64 29, .int .i64 4096, .bool false]) w) := by
  have ix := ridx1
  go_enter Try.func45, Try.ntmps45
  go_wp2_with fail
  refine (rows_any _).mono ?_
  rintro r w1 ⟨rfl, hb1⟩
  have H1 := Lib.hid hb1
  clear hb1
  go_wp2_with fail
  refine (rows_any _).mono ?_
  rintro r w2 ⟨rfl, hb2⟩
  have H2 := Lib.hid (below_then' H1.out hb2)
  clear hb2
  obtain ⟨c0, c1, c2, c3, hf, hB⟩ := of_cells rfl H2.out
  have HB := Lib.hid hB
  clear hB
  go_wp2_with fail
  refine bodyPost_ret (v := .agg #[.string ⟨#[79, 80, 69, 78]⟩, .int .i64 29, .int .i64 4096, .bool false]) (by simp [results, Try.results45, go_sem, c0, c1, c2, c3]) rfl ⟨rfl, ?_⟩
  exact (((HB.out.setCell (by simp) _).setCell (by simp) _).setCell (by simp) _).setCell (by simp) _

set_option maxRecDepth 100000 in
theorem of_2 (w : World) : Calls Try.prog 45 #[.int .i64 2] w (RV (.agg #[.string ⟨#[85, 80, 68, 65, 84, 69]⟩, .int .i64 23, .int .i64 4096, .bool true]) w) := by
  have ix := ridx2
  go_enter Try.func45, Try.ntmps45
  go_wp2_with fail
  refine (rows_any _).mono ?_
  rintro r w1 ⟨rfl, hb1⟩
  have H1 := Lib.hid hb1
  clear hb1
  go_wp2_with fail
  refine (rows_any _).mono ?_
  rintro r w2 ⟨rfl, hb2⟩
  have H2 := Lib.hid (below_then' H1.out hb2)
  clear hb2
  obtain ⟨c0, c1, c2, c3, hf, hB⟩ := of_cells rfl H2.out
  have HB := Lib.hid hB
  clear hB
  go_wp2_with fail
  refine bodyPost_ret (v := .agg #[.string ⟨#[85, 80, 68, 65, 84, 69]⟩, .int .i64 23, .int .i64 4096, .bool true]) (by simp [results, Try.results45, go_sem, c0, c1, c2, c3]) rfl ⟨rfl, ?_⟩
  exact (((HB.out.setCell (by simp) _).setCell (by simp) _).setCell (by simp) _).setCell (by simp) _

set_option maxRecDepth 100000 in
theorem of_3 (w : World) : Calls Try.prog 45 #[.int .i64 3] w (RV (.agg #[.string ⟨#[78, 79, 84, 73, 70, 73, 67, 65, 84, 73, 79, 78]⟩, .int .i64 21, .int .i64 4096, .bool true]) w) := by
  have ix := ridx3
  go_enter Try.func45, Try.ntmps45
  go_wp2_with fail
  refine (rows_any _).mono ?_
  rintro r w1 ⟨rfl, hb1⟩
  have H1 := Lib.hid hb1
  clear hb1
  go_wp2_with fail
  refine (rows_any _).mono ?_
  rintro r w2 ⟨rfl, hb2⟩
  have H2 := Lib.hid (below_then' H1.out hb2)
  clear hb2
  obtain ⟨c0, c1, c2, c3, hf, hB⟩ := of_cells rfl H2.out
  have HB := Lib.hid hB
  clear hB
  go_wp2_with fail
  refine bodyPost_ret (v := .agg #[.string ⟨#[78, 79, 84, 73, 70, 73, 67, 65, 84, 73, 79, 78]⟩, .int .i64 21, .int .i64 4096, .bool true]) (by simp [results, Try.results45, go_sem, c0, c1, c2, c3]) rfl ⟨rfl, ?_⟩
  exact (((HB.out.setCell (by simp) _).setCell (by simp) _).setCell (by simp) _).setCell (by simp) _

set_option maxRecDepth 100000 in
theorem of_4 (w : World) : Calls Try.prog 45 #[.int .i64 4] w (RV (.agg #[.string ⟨#[75, 69, 69, 80, 65, 76, 73, 86, 69]⟩, .int .i64 19, .int .i64 19, .bool false]) w) := by
  have ix := ridx4
  go_enter Try.func45, Try.ntmps45
  go_wp2_with fail
  refine (rows_any _).mono ?_
  rintro r w1 ⟨rfl, hb1⟩
  have H1 := Lib.hid hb1
  clear hb1
  go_wp2_with fail
  refine (rows_any _).mono ?_
  rintro r w2 ⟨rfl, hb2⟩
  have H2 := Lib.hid (below_then' H1.out hb2)
  clear hb2
  obtain ⟨c0, c1, c2, c3, hf, hB⟩ := of_cells rfl H2.out
  have HB := Lib.hid hB
  clear hB
  go_wp2_with fail
  refine bodyPost_ret (v := .agg #[.string ⟨#[75, 69, 69, 80, 65, 76, 73, 86, 69]⟩, .int .i64 19, .int .i64 19, .bool false]) (by simp [results, Try.results45, go_sem, c0, c1, c2, c3]) rfl ⟨rfl, ?_⟩
  exact (((HB.out.setCell (by simp) _).setCell (by simp) _).setCell (by simp) _).setCell (by simp) _

set_option maxRecDepth 100000 in
theorem of_5 (w : World) : Calls Try.prog 45 #[.int .i64 5] w (RV (.agg #[.string ⟨#[82, 79, 85, 84, 69, 45, 82, 69, 70, 82, 69, 83, 72]⟩, .int .i64 23, .int .i64 23, .bool false]) w) := by
  have ix := ridx5
  go_enter Try.func45, Try.ntmps45
  go_wp2_with fail
  refine (rows_any _).mono ?_
  rintro r w1 ⟨rfl, hb1⟩
  have H1 := Lib.hid hb1
  clear hb1
  go_wp2_with fail
  refine (rows_any _).mono ?_
  rintro r w2 ⟨rfl, hb2⟩
  have H2 := Lib.hid (below_then' H1.out hb2)
  clear hb2
  obtain ⟨c0, c1, c2, c3, hf, hB⟩ := of_cells rfl H2.out
  have HB := Lib.hid hB
  clear hB
  go_wp2_with fail
  refine bodyPost_ret (v := .agg #[.string ⟨#[82, 79, 85, 84, 69, 45, 82, 69, 70, 82, 69, 83, 72]⟩, .int .i64 23, .int .i64 23, .bool false]) (by simp [results, Try.results45, go_sem, c0, c1, c2, c3]) rfl ⟨rfl, ?_⟩
  exact (((HB.out.setCell (by simp) _).setCell (by simp) _).setCell (by simp) _).setCell (by simp) _

set_option maxRecDepth 100000 in
theorem of_0 (w : World) : Calls Try.prog 45 #[.int .i64 0] w (RV (.agg #[.string ⟨#[]⟩, .int .i64 0, .int .i64 0, .bool false]) w) := by
  have ix := ridx0
  go_enter Try.func45, Try.ntmps45
  go_wp2_with fail
  refine (rows_any _).mono ?_
  rintro r w1 ⟨rfl, hb1⟩
  have H1 := Lib.hid hb1
  clear hb1
  go_wp2_with fail
  refine (rows_any _).mono ?_
  rintro r w2 ⟨rfl, hb2⟩
  have H2 := Lib.hid (below_then' H1.out hb2)
  clear hb2
  obtain ⟨c0, c1, c2, c3, hf, hB⟩ := of_cells rfl H2.out
  have HB := Lib.hid hB
  clear hB
  go_wp2_with fail
  refine bodyPost_ret (v := .agg #[.string ⟨#[]⟩, .int .i64 0, .int .i64 0, .bool false]) (by simp [results, Try.results45, go_sem, c0, c1, c2, c3]) rfl ⟨rfl, ?_⟩
  exact (((HB.out.setCell (by simp) _).setCell (by simp) _).setCell (by simp) _).setCell (by simp) _

set_option maxRecDepth 100000 in
theorem of_neg (k : Int) (h : k < 0) (w : World) : Calls Try.prog 45 #[.int .i64 k] w (RV (.agg #[.string ⟨#[]⟩, .int .i64 0, .int .i64 0, .bool false]) w) := by
  go_enter Try.func45, Try.ntmps45
  go_wp2_with fail
  refine bodyPost_ret (v := .agg #[.string ⟨#[]⟩, .int .i64 0, .int .i64 0, .bool false]) (by simp [results, Try.results45, go_sem]) rfl ⟨rfl, ?_⟩
  exact below_alloc (Below.refl _ _) _

set_option maxRecDepth 100000 in
theorem of_big (k : Int) (h0 : ¬ k < 0) (h : 6 ≤ k) (w : World) : Calls Try.prog 45 #[.int .i64 k] w (RV (.agg #[.string ⟨#[]⟩, .int .i64 0, .int .i64 0, .bool false]) w) := by
  go_enter Try.func45, Try.ntmps45
  go_wp2_with fail
  refine (rows_any _).mono ?_
  rintro r w1 ⟨rfl, hb1⟩
  have H1 := Lib.hid hb1
  clear hb1
  obtain ⟨c0, c1, c2, c3, hf, hB⟩ := of_cells rfl H1.out
  have HB := Lib.hid hB
  clear hB
  go_wp2_with fail
  refine bodyPost_ret (v := .agg #[.string ⟨#[]⟩, .int .i64 0, .int .i64 0, .bool false]) (by simp [results, Try.results45, go_sem, c0, c1, c2, c3]) rfl ⟨rfl, ?_⟩
  exact (((HB.out.setCell (by simp) _).setCell (by simp) _).setCell (by simp) _).setCell (by simp) _

theorem of_any (k : Int) (w : World) : Calls Try.prog 45 #[.int .i64 k] w (RV (rowK k) w) := by
  rcases kinds k with rfl | rfl | rfl | rfl | rfl | h
  · exact of_1 w
  · exact of_2 w
  · exact of_3 w
  · exact of_4 w
  · exact of_5 w
  · rw [rowK0 h]
    by_cases h0 : k < 0
    · exact of_neg k h0 w
    · by_cases h6 : 6 ≤ k
      · exact of_big k h0 h6 w
      · obtain rfl : k = 0 := by omega
        exact of_0 w

end Go.Proofs.Ytdiiolbkjmhmdaa
