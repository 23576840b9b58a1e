/- The framer's Close. -/
import Derived.Test.YtdiiolbkjmhmdaaFrD
namespace Go.Proofs.Ytdiiolbkjmhmdaa
open Go.RowKit
set_option linter.unusedSimpArgs false
set_option linter.unusedVariables false

def upd (V : Nat → Value) (k : Nat) (v : Value) : Nat → Value := fun j => if j = k then v else V j
theorem FrC.upd {w : World} {g : Nat} {V : Nat → Value} (h : FrC w g V) (k : Nat) (v : Value) : FrC (w.setCell ⟨g, k, none⟩ v) g (upd V k v) :=
  h.set k v _ (fun _ => by simp [Go.Proofs.Ytdiiolbkjmhmdaa.upd]) (fun j hj => by simp [Go.Proofs.Ytdiiolbkjmhmdaa.upd, hj])
theorem FrC.drew {w : World} {g : Nat} {V : Nat → Value} (h : FrC w g V) : FrC w.drew g V := h
theorem FrC.setOther {w : World} {g : Nat} {V : Nat → Value} (h : FrC w g V) {p : Addr} (hp : p.block ≠ g) (v : Value) : FrC (w.setCell p v) g V := by
  have hb : (w.setCell p v).heap[g]? = w.heap[g]? := Below.heap_setCell _ _ _ _ (fun e => hp e.symm)
  exact ⟨by simpa using h.1, fun j hj => ⟨by rw [World.cell?_of_block (w := w) (a := ⟨g, j, none⟩) hb]; exact (h.2 j hj).1, by rw [World.frozen?_setCell]; exact (h.2 j hj).2⟩⟩
/-- The framer's cells when it has been closed. -/
def shutV (V : Nat → Value) : Nat → Value := upd (upd (upd V 0 (.slice none 0 0)) 1 (.int .i64 0)) 11 (.int .u32 1)
def ClP (g Q : Nat) (V : Nat → Value) (w : World) (r : Ending) (w' : World) : Prop :=
  r = .returned (.tuple #[]) ∧ FrC w' g (shutV V) ∧ w'.cell? ⟨Q, 0, none⟩ = some (.bool true) ∧ Ch g (some Q) w w'
set_option maxRecDepth 100000 in
set_option maxHeartbeats 1000000 in
theorem closure_any (g P Q : Nat) (V : Nat → Value) (A : Option Addr) (n c : Nat) (x : Int) (y : Bool) (u : Int) (w : World) (hC : FrC w g V) (hV : V 0 = .slice A n c) (hV1 : V 1 = .int .i64 x) (hV11 : V 11 = .int .u32 u)
    (hP : w.cell? ⟨P, 0, none⟩ = some (.pointer (some ⟨g, 0, none⟩))) (hQ : w.cell? ⟨Q, 0, none⟩ = some (.bool y)) (hQf : w.frozen? ⟨Q, 0, none⟩ = false) (hPg : P ≠ g) (hQg : Q ≠ g) (hPQ : P ≠ Q) :
    Calls Try.prog 61 #[.pointer (some ⟨P, 0, none⟩), .pointer (some ⟨Q, 0, none⟩)] w (ClP g Q V w) := by
  have HD := Lib.hid (drop_any g V A n c x w hC hV hV1)
  have h1 := (hC.upd 0 (.slice none 0 0)).upd 1 (.int .i64 0)
  have HC1 := Lib.hid h1
  have hP1 : ((w.setCell ⟨g, 0, none⟩ (.slice none 0 0)).setCell ⟨g, 1, none⟩ (.int .i64 0)).cell? ⟨P, 0, none⟩ = some (.pointer (some ⟨g, 0, none⟩)) := by
    rw [World.cell?_setCell_other _ _ _ _ (addr_ne (.inl (Ne.symm hPg))), World.cell?_setCell_other _ _ _ _ (addr_ne (.inl (Ne.symm hPg)))]; exact hP
  have hQ1 : ((w.setCell ⟨g, 0, none⟩ (.slice none 0 0)).setCell ⟨g, 1, none⟩ (.int .i64 0)).cell? ⟨Q, 0, none⟩ = some (.bool y) := by
    rw [World.cell?_setCell_other _ _ _ _ (addr_ne (.inl (Ne.symm hQg))), World.cell?_setCell_other _ _ _ _ (addr_ne (.inl (Ne.symm hQg)))]; exact hQ
  have hQf1 : ((w.setCell ⟨g, 0, none⟩ (.slice none 0 0)).setCell ⟨g, 1, none⟩ (.int .i64 0)).frozen? ⟨Q, 0, none⟩ = false := by rw [World.frozen?_setCell, World.frozen?_setCell]; exact hQf
  have hch : Ch g (some Q) w ((w.setCell ⟨g, 0, none⟩ (.slice none 0 0)).setCell ⟨g, 1, none⟩ (.int .i64 0)) := ((Ch.refl g (some Q) w).set 0 _).set 1 _
  have HCH := Lib.hid hch
  clear hC hQ hQf hch h1
  go_enter Try.func61, Try.ntmps61
  go_wp2_with fail
  refine HD.out.mono ?_
  rintro r w1 ⟨rfl, hw1⟩
  rw [← hw1] at hP1 hQ1 hQf1 HC1 HCH
  clear hw1 hP
  have HC1c := (HC1.out.2 11 (by omega)).1
  have HC1f := (HC1.out.2 11 (by omega)).2
  have HST := Lib.hid (store_any ⟨g, 11, none⟩ _ w1 HC1c HC1f)
  go_wp2_with fail
  refine HST.out.mono ?_
  rintro r w2 ⟨rfl, hw2⟩
  have hQ2 : w2.cell? ⟨Q, 0, none⟩ = some (.bool y) := by
    rw [hw2, World.cell?_setCell_other _ _ _ _ (addr_ne (.inl (Ne.symm hQg)))]; exact hQ1
  have hQf2 : w2.frozen? ⟨Q, 0, none⟩ = false := by rw [hw2, World.frozen?_setCell]; exact hQf1
  have HC2 := Lib.hid (show FrC w2 g (shutV V) by rw [hw2]; exact (HC1.out.drew).upd 11 _)
  have HCH2 := Lib.hid (show Ch g (some Q) w w2 by rw [hw2]; exact (HCH.out.drew).set 11 _)
  clear hw2 hQ1 hQf1 hP1 HC1c HC1f HST HC1 HCH
  go_wp2_with fail
  first | go_end0 | refine bodyPost_ret (results_none rfl _ _ _) rfl ?_
  refine ⟨rfl, HC2.out.setOther hQg _, World.cell?_setCell_same _ _ _ hQ2, ?_⟩
  exact ⟨HCH2.out.os, HCH2.out.tape, HCH2.out.output, by simpa using HCH2.out.size, fun k hk h1 h2 => by
    rw [Below.heap_setCell _ _ _ _ (fun e => h2 (by rw [e]))]; exact HCH2.out.block k hk h1 h2⟩

def SlP (g Q : Nat) (V : Nat → Value) (w : World) (r : Ending) (w' : World) : Prop :=
  r = .returned (.tuple #[]) ∧ FrC w' g (upd (upd (shutV (upd V 9 (.int .i32 1))) 8 (.int .u32 1)) 9 (.int .i32 0)) ∧ w'.cell? ⟨Q, 0, none⟩ = some (.bool true) ∧ Ch g (some Q) w w'
set_option maxRecDepth 100000 in
set_option maxHeartbeats 1600000 in
theorem slow_any (g P Q : Nat) (V : Nat → Value) (A : Option Addr) (n c : Nat) (x : Int) (y : Bool) (w : World) (hC : FrC w g V) (hV : V 0 = .slice A n c) (hV1 : V 1 = .int .i64 x) (hV8 : V 8 = .int .u32 0) (hV9 : V 9 = .int .i32 0) (hV11 : V 11 = .int .u32 0)
    (hP : w.cell? ⟨P, 0, none⟩ = some (.pointer (some ⟨g, 0, none⟩))) (hQ : w.cell? ⟨Q, 0, none⟩ = some (.bool y)) (hQf : w.frozen? ⟨Q, 0, none⟩ = false) (hPg : P ≠ g) (hQg : Q ≠ g) (hPQ : P ≠ Q) :
    Calls Try.prog 73 #[.pointer (some ⟨g, 8, none⟩), .func (.func 61) #[] #[.pointer (some ⟨P, 0, none⟩), .pointer (some ⟨Q, 0, none⟩)]] w (SlP g Q V w) := by
  have hnot : ∀ (x : Bool) (w : World), (Op.unary .not (.bool x)).run Try.prog w = .ok (.bool (!x)) w := fun _ _ => rfl
  have k9 := (hC.2 9 (by omega)).1
  rw [hV9] at k9
  have HL := Lib.hid (lock_free ⟨g, 9, none⟩ w k9 (hC.2 9 (by omega)).2)
  have h1 := hC.upd 9 (.int .i32 1)
  have k8 : (w.setCell ⟨g, 9, none⟩ (.int .i32 1)).cell? ⟨g, 8, none⟩ = some (.int .u32 0) := by have := (h1.2 8 (by omega)).1; rw [this]; exact congrArg some hV8
  have HLD := Lib.hid (load_any ⟨g, 8, none⟩ 0 false _ k8 rfl)
  have HCL := Lib.hid (closure_any g P Q (upd V 9 (.int .i32 1)) A n c x y 0 _ h1 hV hV1 hV11 (by rw [World.cell?_setCell_other _ _ _ _ (addr_ne (.inl (Ne.symm hPg)))]; exact hP) (by rw [World.cell?_setCell_other _ _ _ _ (addr_ne (.inl (Ne.symm hQg)))]; exact hQ) (by rw [World.frozen?_setCell]; exact hQf) hPg hQg hPQ)
  have HCH := Lib.hid ((Ch.refl g (some Q) w).set 9 (.int .i32 1))
  obtain ⟨W1, hW1⟩ : ∃ W1, W1 = w.setCell ⟨g, 9, none⟩ (.int .i32 1) := ⟨_, rfl⟩
  rw [← hW1] at HL HLD HCL HCH
  have HQg := Lib.hid hQg
  clear hC h1 k9 k8 hP hQ hQf hV hV1 hV8 hV9 hV11 hPg hPQ hW1 hQg
  go_enter_defers Try.func73, Try.ntmps73
  go_wp2_with fail
  refine HL.out.mono ?_
  rintro r w1 ⟨rfl, rfl⟩
  go_wp2_with fail
  refine HLD.out.mono ?_
  rintro r w2 ⟨rfl, rfl⟩
  go_wp2_with fail
  refine HCL.out.mono ?_
  rintro r w3 ⟨rfl, hC3, hQ3, hch3⟩
  have HC3 := Lib.hid hC3
  have HQ3 := Lib.hid hQ3
  have HCH3 := Lib.hid (HCH.out.trans hch3 (Nx.refl _ _))
  clear hC3 hQ3 hch3 HCL HLD HL HCH
  go_wp2_with fail
  have k8 := (HC3.out.2 8 (by omega)).1
  have f8 := (HC3.out.2 8 (by omega)).2
  refine leaves_cons (f := 63) (args := #[.pointer (some ⟨g, 8, none⟩), .bool true]) (by simp) (by simp [go_sem]) ?_
  refine (store_deferred ⟨g, 8, none⟩ _ .returning _ k8 f8).mono ?_
  rintro e u' w4 ⟨rfl, rfl, hw4⟩
  have HC4 := Lib.hid (show FrC w4 g (upd (shutV (upd V 9 (.int .i32 1))) 8 (.int .u32 1)) by rw [hw4]; exact (HC3.out.drew).upd 8 _)
  have HQ4 := Lib.hid (show w4.cell? ⟨Q, 0, none⟩ = some (.bool true) by rw [hw4, World.cell?_setCell_other _ _ _ _ (addr_ne (.inl (Ne.symm HQg.out)))]; exact HQ3.out)
  have HCH4 := Lib.hid (show Ch g (some Q) w w4 by rw [hw4]; exact (HCH3.out.drew).set 8 _)
  clear hw4 k8 f8
  refine leaves_cons (f := 81) (args := #[.pointer (some ⟨g, 9, none⟩)]) (by simp [settle]) (by simp [go_sem]) ?_
  refine (unlock_deferred ⟨g, 9, none⟩ _ _ (HC4.out.2 9 (by omega)).1 (HC4.out.2 9 (by omega)).2).mono ?_
  rintro e u' w5 ⟨rfl, rfl, hw5⟩
  have hfin : SlP g Q V w (.returned (.tuple #[])) w5 := ⟨rfl, by rw [hw5]; exact HC4.out.upd 9 _, by rw [hw5, World.cell?_setCell_other _ _ _ _ (addr_ne (.inl (Ne.symm HQg.out)))]; exact HQ4.out, by rw [hw5]; exact HCH4.out.set 9 _⟩
  have HFIN := Lib.hid hfin
  clear hfin hw5
  simp [Leaves, settle, results, Try.results73]
  exact HFIN.out

set_option maxRecDepth 100000 in
set_option maxHeartbeats 1600000 in
theorem do_first (g P Q : Nat) (V : Nat → Value) (A : Option Addr) (n c : Nat) (x : Int) (y : Bool) (w : World) (hC : FrC w g V) (hV : V 0 = .slice A n c) (hV1 : V 1 = .int .i64 x) (hV8 : V 8 = .int .u32 0) (hV9 : V 9 = .int .i32 0) (hV11 : V 11 = .int .u32 0)
    (hP : w.cell? ⟨P, 0, none⟩ = some (.pointer (some ⟨g, 0, none⟩))) (hQ : w.cell? ⟨Q, 0, none⟩ = some (.bool y)) (hQf : w.frozen? ⟨Q, 0, none⟩ = false) (hPg : P ≠ g) (hQg : Q ≠ g) (hPQ : P ≠ Q) :
    Calls Try.prog 60 #[.pointer (some ⟨g, 8, none⟩), .func (.func 61) #[] #[.pointer (some ⟨P, 0, none⟩), .pointer (some ⟨Q, 0, none⟩)]] w (SlP g Q V w) := by
  have hnot : ∀ (x : Bool) (w : World), (Op.unary .not (.bool x)).run Try.prog w = .ok (.bool (!x)) w := fun _ _ => rfl
  have HS := Lib.hid (slow_any g P Q V A n c x y w hC hV hV1 hV8 hV9 hV11 hP hQ hQf hPg hQg hPQ)
  have k8 := (hC.2 8 (by omega)).1
  rw [hV8] at k8
  have HLD := Lib.hid (load_any ⟨g, 8, none⟩ 0 false _ k8 rfl)
  clear hC k8 hP hQ hQf hV hV1 hV8 hV9 hV11 hPg hPQ hQg
  go_enter Try.func60, Try.ntmps60
  go_wp2_with fail
  refine HLD.out.mono ?_
  rintro r w1 ⟨rfl, rfl⟩
  go_wp2_with fail
  refine HS.out.mono ?_
  rintro r w2 ⟨rfl, h⟩
  have HH := Lib.hid h
  clear h
  go_wp2_with fail
  first | go_end0 | refine bodyPost_ret (results_none rfl _ _ _) rfl ?_
  exact ⟨rfl, HH.out⟩
set_option maxRecDepth 100000 in
theorem do_done (g : Nat) (fv : Value) (w : World) (h8 : w.cell? ⟨g, 8, none⟩ = some (.int .u32 1)) :
    Calls Try.prog 60 #[.pointer (some ⟨g, 8, none⟩), fv] w fun e w' => e = .returned (.tuple #[]) ∧ w' = w := by
  have hnot : ∀ (x : Bool) (w : World), (Op.unary .not (.bool x)).run Try.prog w = .ok (.bool (!x)) w := fun _ _ => rfl
  have HLD := Lib.hid (load_any ⟨g, 8, none⟩ 1 true _ h8 rfl)
  clear h8
  go_enter Try.func60, Try.ntmps60
  go_wp2_with fail
  refine HLD.out.mono ?_
  rintro r w1 ⟨rfl, rfl⟩
  go_wp2_with fail
  first | go_end0 | refine bodyPost_ret (results_none rfl _ _ _) rfl ?_
  exact ⟨rfl, rfl⟩

/-- The state of a framer that has been closed. -/
def shut (s : St) : St := ⟨[], s.len, true, s.frames⟩
theorem Ok.shut (s : St) : Ok (shut s) := ⟨by simp [Go.Proofs.Ytdiiolbkjmhmdaa.shut], fun _ => rfl, by simp [Go.Proofs.Ytdiiolbkjmhmdaa.shut], by simp [Go.Proofs.Ytdiiolbkjmhmdaa.shut]⟩
theorem shut_frV (v : Value) (s : St) (a b c d e f : Bool) : ∀ j, j < 13 → upd (upd (shutV (upd (frV v s a b c d e f) 9 (.int .i32 1))) 8 (.int .u32 1)) 9 (.int .i32 0) j = frV (.slice none 0 0) (shut s) a b c d e f j := by
  intro j hj
  match j, hj with
  | 0, _ => rfl
  | 1, _ => rfl
  | 2, _ => rfl
  | 3, _ => rfl
  | 4, _ => rfl
  | 5, _ => rfl
  | 6, _ => rfl
  | 7, _ => rfl
  | 8, _ => rfl
  | 9, _ => rfl
  | 10, _ => rfl
  | 11, _ => rfl
  | 12, _ => rfl
theorem FrC.congr {w : World} {g : Nat} {V V' : Nat → Value} (h : FrC w g V) (e : ∀ j, j < 13 → V j = V' j) : FrC w g V' := ⟨h.1, fun j hj => by rw [← e j hj]; exact h.2 j hj⟩
def CloseP (g : Nat) (K : Option Nat) (s : St) (a b c d e f : Bool) (w : World) (r : Ending) (w' : World) : Prop :=
  r = .returned (.bool true) ∧ Fr w' g none (.slice none 0 0) (shut s) a b c d e f ∧ Ch g K w w'
set_option maxRecDepth 100000 in
set_option maxHeartbeats 1000000 in
theorem close_first (g : Nat) (K : Option Nat) (v : Value) (s : St) (a b c d e f : Bool) (w : World) (h : Fr w g K v s a b c d e f) (hs : s.closed = false) :
    Calls Try.prog 40 #[.pointer (some ⟨g, 0, none⟩)] w (CloseP g K s a b c d e f w) := by
  have hmf : ∀ (fn : Fn) (first cap : Array Value) (w : World), (Instr.makeFunc fn first cap).run Try.prog w = .ok (.func fn first cap) w := fun _ _ _ _ => rfl
  obtain ⟨A, c', rfl⟩ := h.form
  have hg := h.glt
  have hb0 := below_alloc (below_alloc (Below.refl w.heap.size w) (.cells #[.pointer (some ⟨g, 0, none⟩)] 51)) (.cells #[.bool false] 4)
  have h2 := h.below hb0
  have HDO := Lib.hid (do_first g w.heap.size (w.heap.size + 1) _ A s.kept.length c' s.want false _ h2.cs rfl rfl (by simp [frV, hs]) rfl (by simp [frV, hs])
    (by rw [World.cell?_alloc_past _ _ _ (by simp), World.cell?_alloc_at _ _ _ _ rfl]; rfl) (by rw [World.cell?_alloc_at _ _ _ _ (by simp)]; rfl) (by rw [World.frozen?_alloc_at _ _ _ _ (by simp)]) (by omega) (by omega) (by omega))
  have HB0 := Lib.hid hb0
  have HGL := Lib.hid hg
  clear h h2 hb0 hs
  go_enter Try.func40, Try.ntmps40
  go_wp2_with fail
  refine HDO.out.mono ?_
  rintro r w1 ⟨rfl, hC1, hQ1, hch⟩
  have HC1 := Lib.hid hC1
  have HCH := Lib.hid hch
  clear hC1 hch HDO
  go_wp2_with fail
  go_ret
  refine ⟨rfl, ⟨HC1.out.congr (shut_frV _ _ _ _ _ _ _ _), own_nil _ _ _ _, rfl, nofun, Ok.shut s⟩, ?_⟩
  have h0 : Ch g K w ((w.alloc (.cells #[.pointer (some ⟨g, 0, none⟩)] 51)).alloc (.cells #[.bool false] 4)) := Ch.of HB0.out
  exact h0.trans HCH.out (.inr (.inr ⟨_, rfl, by omega⟩))
set_option maxRecDepth 100000 in
set_option maxHeartbeats 1000000 in
theorem close_done (g : Nat) (w : World) (hg : g < w.heap.size) (h8 : w.cell? ⟨g, 8, none⟩ = some (.int .u32 1)) :
    Calls Try.prog 40 #[.pointer (some ⟨g, 0, none⟩)] w (RB false w) := by
  have hmf : ∀ (fn : Fn) (first cap : Array Value) (w : World), (Instr.makeFunc fn first cap).run Try.prog w = .ok (.func fn first cap) w := fun _ _ _ _ => rfl
  have hb0 := below_alloc (below_alloc (Below.refl w.heap.size w) (.cells #[.pointer (some ⟨g, 0, none⟩)] 51)) (.cells #[.bool false] 4)
  have HDO := Lib.hid (fun fv => do_done g fv ((w.alloc (.cells #[.pointer (some ⟨g, 0, none⟩)] 51)).alloc (.cells #[.bool false] 4)) (by rw [hb0.cell (by simpa using hg)]; exact h8))
  have HB0 := Lib.hid hb0
  clear h8 hb0
  go_enter Try.func40, Try.ntmps40
  go_wp2_with fail
  refine (HDO.out _).mono ?_
  rintro r w1 ⟨rfl, rfl⟩
  go_wp2_with fail
  go_ret
  exact ⟨rfl, HB0.out⟩
set_option maxRecDepth 100000 in
theorem close_nil (w : World) : Calls Try.prog 40 #[.pointer none] w (RB false w) := by
  go_enter Try.func40, Try.ntmps40
  go_wp2_with fail
  go_ret
  exact ⟨rfl, below_alloc (Below.refl _ _) _⟩

end Go.Proofs.Ytdiiolbkjmhmdaa
