/- The options' fields, their names and small contracts: what each of the small functions of the package option and of its reference returns, in whatever memory. -/
import Derived.Test.YtagopeefobefnaaDoorRows
import Derived.WalkKit
import Derived.WalkSpells
import Derived.ProofKit
import Derived.Laws.EntriesVeiled
import Derived.LoopTactic
import Derived.Lib.Hide
import Derived.Outline
namespace Go.Proofs.YtagopeefobefnaaDoor
open Go.RowKit

theorem own_nil (W : World) (base : Nat) (e : TypeId) (size : Nat) : W.ownsRow base e size (.slice none 0 0) 0 [] := ⟨by simp, .inl ⟨rfl, rfl⟩⟩
theorem own_base {w : World} {base : Nat} {e : TypeId} {size n : Nat} {v : Value} {xs : List Value} (h : w.ownsRow base e size v n xs) (k : Nat) (hk : v.ownBlock = some k) : base ≤ k := (h.lt k hk).1
theorem below_alloc {w W : World} (h : Below w.heap.size w W) (o : Obj) : Below w.heap.size w (W.alloc o) := h.alloc h.size o
theorem below_alloc' {B : Nat} {w W : World} (h : Below B w W) (hB : B ≤ w.heap.size) (o : Obj) : Below B w (W.alloc o) := h.alloc (Nat.le_trans hB h.size) o
theorem below_then {B : Nat} {w w1 w2 : World} (h : Below B w w1) (hB : B ≤ w1.heap.size) (k : Below w1.heap.size w1 w2) : Below B w w2 := h.trans (k.mono hB)
theorem below_then' {w w1 w2 : World} (h : Below w.heap.size w w1) (k : Below w1.heap.size w1 w2) : Below w.heap.size w w2 := below_then h h.size k

theorem add_plain (g j : Nat) : (⟨g, 0, none⟩ : Addr).add j = ⟨g, j, none⟩ := by unfold Addr.add; split <;> simp_all

/-- What a function that answers a bool leaves behind. -/
def RB (x : Bool) (w : World) (r : Ending) (w' : World) : Prop := r = .returned (.bool x) ∧ Below w.heap.size w w'
/-- What a function that answers a value leaves behind. -/
def RV (x : Value) (w : World) (r : Ending) (w' : World) : Prop := r = .returned x ∧ Below w.heap.size w w'

def nm0 : ByteArray := ⟨#[97, 115, 52]⟩
def nm1 : ByteArray := ⟨#[101, 120, 116, 101, 110, 100, 101, 100]⟩
def nm2 : ByteArray := ⟨#[109, 112, 52]⟩
def nm3 : ByteArray := ⟨#[109, 112, 54]⟩
def nm4 : ByteArray := ⟨#[97, 100, 100, 52]⟩
def nm5 : ByteArray := ⟨#[97, 100, 100, 54]⟩

/-! ### '==' between two options -/
theorem eqf_nil {P : Program} {d : Nat} {xs ys : Array Value} {w : World} : (Op.eqFields d xs ys []).run P w = .ok true w := by simp [Op.eqFields]
theorem eqf_cons {P : Program} {d : Nat} {xs ys : Array Value} {f : Field} {fs : List Field} {a b : Value} {r s : Bool} {w : World} (hn : (f.name == "_") = false) (ha : (part f.type xs f.offset).run P w = .ok a w) (hb : (part f.type ys f.offset).run P w = .ok b w) (he : (Op.equalIn d f.type a b).run P w = .ok r w) (hr : (Op.eqFields d xs ys fs).run P w = .ok s w) : (Op.eqFields d xs ys (f :: fs)).run P w = .ok (r && s) w := by
  have hn' : f.name ≠ "_" := by simpa using hn
  rw [Op.eqFields]
  simp only [if_pos hn', Sem.run_bind, ha, hb, he, Result.andThen_ok]
  cases r
  · simp
  · simpa using hr
theorem eq_struct {P : Program} {t : TypeId} {fs : Array Field} {xs ys : Array Value} {r : Bool} {w : World} (hu : P.underlying t = some (.struct fs)) (hp : P.stoodInHeld t = false) (h : (Op.eqFields 9999 xs ys fs.toList).run P w = .ok r w) : (binOp .eql t (.agg xs) (.agg ys)).run P w = .ok (.bool r) w := by
  have hf : P.fieldsOf t = fs := by simp [Program.fieldsOf, hu]
  rw [run_eql_struct, run_equalIn_struct (P := P) w 9999 t xs ys (by rw [hf]; exact hu) hp, hf, h]
  rfl
set_option maxRecDepth 100000 in
theorem eq_opts (a b c d e f a' b' c' d' e' f' : Bool) (w : World) :
    (binOp .eql 25 (.agg #[.bool a, .bool b, .bool c, .bool d, .bool e, .bool f]) (.agg #[.bool a', .bool b', .bool c', .bool d', .bool e', .bool f'])).run Tryd.prog w =
      .ok (.bool (a == a' && (b == b' && (c == c' && (d == d' && (e == e' && (f == f' && true))))))) w := by
  have hb : ∀ (x y : Bool) (w : World), (Op.equalIn 9999 4 (.bool x) (.bool y)).run Tryd.prog w = .ok (x == y) w := fun x y w => run_equalIn_bool' w 9998 4 x y Tryd.underlying4
  refine eq_struct Tryd.underlying25 (by kernel_rfl) ?_
  refine eqf_cons (by kernel_rfl) rfl rfl (hb _ _ _) ?_
  refine eqf_cons (by kernel_rfl) rfl rfl (hb _ _ _) ?_
  refine eqf_cons (by kernel_rfl) rfl rfl (hb _ _ _) ?_
  refine eqf_cons (by kernel_rfl) rfl rfl (hb _ _ _) ?_
  refine eqf_cons (by kernel_rfl) rfl rfl (hb _ _ _) ?_
  refine eqf_cons (by kernel_rfl) rfl rfl (hb _ _ _) ?_
  exact eqf_nil

/-! ### The table of the fields -/
set_option maxRecDepth 100000 in
theorem fields_any (w : World) : Calls Tryd.prog 18 #[] w (RV (.agg #[.string nm0, .func (.func 29) #[] #[], .string nm1, .func (.func 30) #[] #[], .string nm2, .func (.func 31) #[] #[], .string nm3, .func (.func 32) #[] #[], .string nm4, .func (.func 33) #[] #[], .string nm5, .func (.func 34) #[] #[]]) w) := by
  go_enter Tryd.func18, Tryd.ntmps18
  go_wp2
  refine bodyPost_ret (v := .agg #[.string nm0, .func (.func 29) #[] #[], .string nm1, .func (.func 30) #[] #[], .string nm2, .func (.func 31) #[] #[], .string nm3, .func (.func 32) #[] #[], .string nm4, .func (.func 33) #[] #[], .string nm5, .func (.func 34) #[] #[]]) (by simp [results, Tryd.results18, go_sem, nm0, nm1, nm2, nm3, nm4, nm5]) rfl ⟨rfl, (Below.refl _ _).alloc (Nat.le_refl _) _⟩

theorem idx0 (w : World) : (Instr.index 43 (.agg #[.string nm0, .func (.func 29) #[] #[], .string nm1, .func (.func 30) #[] #[], .string nm2, .func (.func 31) #[] #[], .string nm3, .func (.func 32) #[] #[], .string nm4, .func (.func 33) #[] #[], .string nm5, .func (.func 34) #[] #[]]) (.int .i64 0)).run Tryd.prog w = .ok (.agg #[.string nm0, .func (.func 29) #[] #[]]) w := by kernel_rfl
theorem idx1 (w : World) : (Instr.index 43 (.agg #[.string nm0, .func (.func 29) #[] #[], .string nm1, .func (.func 30) #[] #[], .string nm2, .func (.func 31) #[] #[], .string nm3, .func (.func 32) #[] #[], .string nm4, .func (.func 33) #[] #[], .string nm5, .func (.func 34) #[] #[]]) (.int .i64 1)).run Tryd.prog w = .ok (.agg #[.string nm1, .func (.func 30) #[] #[]]) w := by kernel_rfl
theorem idx2 (w : World) : (Instr.index 43 (.agg #[.string nm0, .func (.func 29) #[] #[], .string nm1, .func (.func 30) #[] #[], .string nm2, .func (.func 31) #[] #[], .string nm3, .func (.func 32) #[] #[], .string nm4, .func (.func 33) #[] #[], .string nm5, .func (.func 34) #[] #[]]) (.int .i64 2)).run Tryd.prog w = .ok (.agg #[.string nm2, .func (.func 31) #[] #[]]) w := by kernel_rfl
theorem idx3 (w : World) : (Instr.index 43 (.agg #[.string nm0, .func (.func 29) #[] #[], .string nm1, .func (.func 30) #[] #[], .string nm2, .func (.func 31) #[] #[], .string nm3, .func (.func 32) #[] #[], .string nm4, .func (.func 33) #[] #[], .string nm5, .func (.func 34) #[] #[]]) (.int .i64 3)).run Tryd.prog w = .ok (.agg #[.string nm3, .func (.func 32) #[] #[]]) w := by kernel_rfl
theorem idx4 (w : World) : (Instr.index 43 (.agg #[.string nm0, .func (.func 29) #[] #[], .string nm1, .func (.func 30) #[] #[], .string nm2, .func (.func 31) #[] #[], .string nm3, .func (.func 32) #[] #[], .string nm4, .func (.func 33) #[] #[], .string nm5, .func (.func 34) #[] #[]]) (.int .i64 4)).run Tryd.prog w = .ok (.agg #[.string nm4, .func (.func 33) #[] #[]]) w := by kernel_rfl
theorem idx5 (w : World) : (Instr.index 43 (.agg #[.string nm0, .func (.func 29) #[] #[], .string nm1, .func (.func 30) #[] #[], .string nm2, .func (.func 31) #[] #[], .string nm3, .func (.func 32) #[] #[], .string nm4, .func (.func 33) #[] #[], .string nm5, .func (.func 34) #[] #[]]) (.int .i64 5)).run Tryd.prog w = .ok (.agg #[.string nm5, .func (.func 34) #[] #[]]) w := by kernel_rfl

theorem meth0 (B : Nat) (w : World) : Calls Tryd.prog 29 #[.pointer (some ⟨B, 0, none⟩)] w fun r w' => r = .returned (.pointer (some ⟨B, 0, none⟩)) ∧ w = w' := by
  go_enter Tryd.func29, Tryd.ntmps29
  go_wp2
  go_ret
  exact ⟨rfl, rfl⟩
theorem meth1 (B : Nat) (w : World) : Calls Tryd.prog 30 #[.pointer (some ⟨B, 0, none⟩)] w fun r w' => r = .returned (.pointer (some ⟨B, 1, none⟩)) ∧ w = w' := by
  go_enter Tryd.func30, Tryd.ntmps30
  go_wp2
  go_ret
  exact ⟨rfl, rfl⟩
theorem meth2 (B : Nat) (w : World) : Calls Tryd.prog 31 #[.pointer (some ⟨B, 0, none⟩)] w fun r w' => r = .returned (.pointer (some ⟨B, 2, none⟩)) ∧ w = w' := by
  go_enter Tryd.func31, Tryd.ntmps31
  go_wp2
  go_ret
  exact ⟨rfl, rfl⟩
theorem meth3 (B : Nat) (w : World) : Calls Tryd.prog 32 #[.pointer (some ⟨B, 0, none⟩)] w fun r w' => r = .returned (.pointer (some ⟨B, 3, none⟩)) ∧ w = w' := by
  go_enter Tryd.func32, Tryd.ntmps32
  go_wp2
  go_ret
  exact ⟨rfl, rfl⟩
theorem meth4 (B : Nat) (w : World) : Calls Tryd.prog 33 #[.pointer (some ⟨B, 0, none⟩)] w fun r w' => r = .returned (.pointer (some ⟨B, 4, none⟩)) ∧ w = w' := by
  go_enter Tryd.func33, Tryd.ntmps33
  go_wp2
  go_ret
  exact ⟨rfl, rfl⟩
theorem meth5 (B : Nat) (w : World) : Calls Tryd.prog 34 #[.pointer (some ⟨B, 0, none⟩)] w fun r w' => r = .returned (.pointer (some ⟨B, 5, none⟩)) ∧ w = w' := by
  go_enter Tryd.func34, Tryd.ntmps34
  go_wp2
  go_ret
  exact ⟨rfl, rfl⟩

end Go.Proofs.YtagopeefobefnaaDoor
