/- slices.Repeat of the byte 255, sixteen times. -/
import Derived.Test.YtdiiolbkjmhmdaaHdF
import Derived.Laws.CopyOwn
import Derived.Deep.RegionLaw
import Derived.Laws.Bits
namespace Go.Proofs.Ytdiiolbkjmhmdaa
open Go.RowKit
set_option linter.unusedSimpArgs false
set_option linter.unusedVariables false

set_option maxRecDepth 100000 in
theorem mul64_any (w : World) : Calls Try.prog 78 #[.int .u64 1, .int .u64 16] w fun e w' => e = .returned (.tuple #[.int .u64 0, .int .u64 16]) ∧ w = w' := by
  go_enter Try.func78, Try.ntmps78
  go_wp2
  go_ret2
  refine ⟨?_, rfl⟩
  kernel_rfl

set_option maxRecDepth 100000 in
theorem mul_any (w : World) : Calls Try.prog 65 #[.int .u64 1, .int .u64 16] w fun e w' => e = .returned (.tuple #[.int .u64 0, .int .u64 16]) ∧ w = w' := by
  go_enter Try.func65, Try.ntmps65
  go_wp2_with (go_at_call 78; refine (mul64_any _).mono ?_; rintro r w' ⟨rfl, rfl⟩)
  go_ret2
  exact ⟨rfl, rfl⟩

/-- n bytes 255, and zeros up to sixteen. -/
def RP (n : Nat) : List Value := List.replicate n (.int .u8 255) ++ List.replicate (16 - n) (.int .u8 0)
/-- The marker. -/
def m16 : List Int := List.replicate 16 255
def FF (n : Nat) : List Value := List.replicate n (.int .u8 255)
theorem make16 (w : World) : (Instr.makeSlice 24 (.int .i64 16) (.int .i64 16)).run Try.prog w = .ok (.slice (some ⟨w.heap.size, 0, none⟩) 16 16) (w.alloc (.cells (RP 0).toArray 5)) := by kernel_rfl
theorem szB : (Try.prog.info? 5).map (·.size) = some 1 := by kernel_rfl
theorem FF_at {n j : Nat} {v : Value} (h : (FF n)[j]? = some v) : j < n ∧ v = .int .u8 255 := by
  unfold FF at h
  rw [List.getElem?_replicate] at h
  split at h
  · exact ⟨by assumption, by simpa using h.symm⟩
  · cases h
theorem FF_one (n : Nat) : ∀ v ∈ FF n, v.oneCell' = true := fun v hv => by
  rw [List.eq_of_mem_replicate hv]; rfl
/-- The row at block g, n bytes of it set. -/
def RowP (w : World) (g n : Nat) (wr : World) : Prop := wr.heap[g]? = some (.cells (RP n).toArray 5 (0, 0)) ∧ w.heap.size ≤ g ∧ Below w.heap.size w wr
theorem RowP.src {w wr : World} {g n : Nat} (h : RowP w g n wr) (hn : n ≤ 16) : ∀ j v, (FF n)[j]? = some v → wr.cell? ((⟨g, 0, none⟩ : Addr).add j) = some v := fun j v hj => by
  obtain ⟨hj', rfl⟩ := FF_at hj
  clear hj
  rw [add_plain, cell_of_row wr g j _ _ _ h.1]
  have hj' : j < n := by assumption
  simp [RP, List.getElem?_append, List.getElem?_replicate, hj']
def setAll (cs : Array Value) : Nat → List Value → Array Value
  | _, [] => cs
  | o, v :: r => setAll (cs.setIfInBounds o v) (o + 1) r
theorem heap_setCells (g : Nat) (t : TypeId) : ∀ (vs : List Value) (o : Nat) (w : World) (cs : Array Value), w.heap[g]? = some (.cells cs t (0, 0)) → (w.setCells g o vs).heap[g]? = some (.cells (setAll cs o vs) t (0, 0))
  | [], _, _, _, h => h
  | v :: r, o, w, cs, h => heap_setCells g t r (o + 1) _ _ (heap_setCell_same w g o cs t v h)
theorem set_RP : setAll (RP 0).toArray 0 (FF 1) = (RP 1).toArray ∧ setAll (RP 1).toArray 1 (FF 1) = (RP 2).toArray ∧ setAll (RP 2).toArray 2 (FF 2) = (RP 4).toArray ∧ setAll (RP 4).toArray 4 (FF 4) = (RP 8).toArray ∧ setAll (RP 8).toArray 8 (FF 8) = (RP 16).toArray := ⟨by kernel_rfl, by kernel_rfl, by kernel_rfl, by kernel_rfl, by kernel_rfl⟩
theorem RP_length (n : Nat) (h : n ≤ 16) : (RP n).length = 16 := by simp [RP]; omega
theorem RowP.set {w wr : World} {g n m k : Nat} (h : RowP w g n wr) (hs : setAll (RP n).toArray n (FF k) = (RP m).toArray) : RowP w g m (wr.setCells g n (FF k)) :=
  ⟨hs ▸ heap_setCells g _ _ _ _ _ h.1, h.2.1, below_setCells _ h.2.1 _ _ h.2.2⟩
theorem RowP.drew {w wr : World} {g n : Nat} (h : RowP w g n wr) : RowP w g n wr.drew := ⟨h.1, h.2.1, h.2.2.drew⟩
/-- What the copy inside the row gives. -/
theorem RowP.copy {w wr : World} {g n : Nat} (h : RowP w g n wr) (h0 : 0 < n) (hn : n + n ≤ 16) (ty : TypeId) (z : Int) (hz : z = n) :
    (Builtin.copy_ #[24, 24] ty #[.slice (some ⟨g, n, none⟩) (16 - n) (16 - n), .slice (some ⟨g, 0, none⟩) n 16]).run Try.prog wr = .ok (.int .i64 z) (wr.setCells g n (FF n)) := by
  have hl : (FF n).length = n := by simp [FF]
  have := run_copy_cells (P := Try.prog) wr 24 24 ty 5 g n (16 - n) (16 - n) ⟨g, 0, none⟩ n 16 (FF n) Try.underlying24 szB (by rw [hl]; exact (Nat.min_eq_left (by omega)).symm) (h.src (by omega))
    (fun j hj => by rw [cell_of_row wr g _ _ _ _ h.1]; simp [RP_length n (by omega)]; omega) (fun j hj => frozen_of_row wr g _ _ _ h.1) (FF_one n)
  rw [this, hl, hz]; rfl
theorem RowP.first {w wr : World} {g b : Nat} (h : RowP w g 0 wr) (hc : wr.cell? ⟨b, 0, none⟩ = some (.int .u8 255)) (ty : TypeId) :
    (Builtin.copy_ #[24, 24] ty #[.slice (some ⟨g, 0, none⟩) 16 16, .slice (some ⟨b, 0, none⟩) 1 1]).run Try.prog wr = .ok (.int .i64 1) (wr.setCells g 0 (FF 1)) := by
  have := run_copy_cells (P := Try.prog) wr 24 24 ty 5 g 0 16 16 ⟨b, 0, none⟩ 1 1 (FF 1) Try.underlying24 szB rfl
    (fun j v hj => by obtain ⟨hj', rfl⟩ := FF_at hj; obtain rfl : j = 0 := (by omega); rw [add_plain]; exact hc)
    (fun j hj => by rw [cell_of_row wr g _ _ _ _ h.1]; simp [RP_length 0 (by omega)]; simp [FF] at hj; omega) (fun j hj => frozen_of_row wr g _ _ _ h.1) (FF_one 1)
  rw [this]; rfl
theorem RowP.own {w wr : World} {g : Nat} (h : RowP w g 16 wr) : wr.ownsRow w.heap.size 5 1 (.slice (some ⟨g, 0, none⟩) 16 16) m16.length (bv m16) :=
  ⟨rfl, .inr ⟨g, 16, _, rfl, h.2.1, h.1, Nat.le_refl _, by unfold maxLen; omega, by kernel_rfl, by kernel_rfl⟩⟩

set_option maxRecDepth 100000 in
set_option maxHeartbeats 2000000 in
theorem repeat_any (w : World) (b : Nat) (hb : b < w.heap.size) (hc : w.cell? ⟨b, 0, none⟩ = some (.int .u8 255)) :
    Calls Try.prog 44 #[.slice (some ⟨b, 0, none⟩) 1 1, .int .i64 16] w (OwnB m16 w) := by
  have mk := make16
  go_enter Try.func44, Try.ntmps44
  go_wp2_with fail
  refine (mul_any _).mono ?_
  rintro r w' ⟨rfl, rfl⟩
  have HC := Lib.hid (show ∀ o, (w.alloc o).cell? ⟨b, 0, none⟩ = some (.int .u8 255) from fun o => by rw [World.cell?_alloc_past _ _ _ hb]; exact hc)
  clear hc
  have HR0 := Lib.hid (show RowP w w.heap.size 0 (w.alloc (.cells (RP 0).toArray 5)) from ⟨heap_alloc_new w _, Nat.le_refl _, below_alloc (Below.refl _ _) _⟩)
  have cp := HR0.out.first (HC.out _)
  go_wp2_with fail
  have HR1 := Lib.hid (HR0.out.set set_RP.1)
  clear HR0 HC cp
  go_loopw [8] (fun s wr => ∃ n : Nat, (n = 1 ∨ n = 2 ∨ n = 4 ∨ n = 8 ∨ n = 16) ∧ s = .int .i64 n ∧ RowP w w.heap.size n wr) (fun s _ => 16 - (intOf s).toNat)
  case atStart => exact ⟨1, .inl rfl, rfl, HR1.out⟩
  case round =>
    obtain ⟨n, hn, rfl, hr⟩ := hrel
    clear HR1
    rcases hn with rfl | rfl | rfl | rfl | rfl
    · have cp := fun ty => hr.drew.copy (by omega) (by omega) ty 1 rfl
      have HR := Lib.hid (hr.drew.set set_RP.2.1)
      clear hr
      go_wp2_with fail
      go_region
      all_goals go_wp2_with fail
      all_goals go_roundw
      case rel => exact ⟨2, .inr (.inl rfl), rfl, HR.out⟩
      case measure => simp [intOf]
    · have cp := fun ty => hr.drew.copy (by omega) (by omega) ty 2 rfl
      have HR := Lib.hid (hr.drew.set set_RP.2.2.1)
      clear hr
      go_wp2_with fail
      go_region
      all_goals go_wp2_with fail
      all_goals go_roundw
      case rel => exact ⟨4, .inr (.inr (.inl rfl)), rfl, HR.out⟩
      case measure => simp [intOf]
    · have cp := fun ty => hr.drew.copy (by omega) (by omega) ty 4 rfl
      have HR := Lib.hid (hr.drew.set set_RP.2.2.2.1)
      clear hr
      go_wp2_with fail
      go_region
      all_goals go_wp2_with fail
      all_goals go_roundw
      case rel => exact ⟨8, .inr (.inr (.inr (.inl rfl))), rfl, HR.out⟩
      case measure => simp [intOf]
    · have cp := fun ty => hr.drew.copy (by omega) (by omega) ty 8 rfl
      have HR := Lib.hid (hr.drew.set set_RP.2.2.2.2)
      clear hr
      go_wp2_with fail
      go_region
      all_goals go_wp2_with fail
      all_goals go_roundw
      case rel => exact ⟨16, .inr (.inr (.inr (.inr rfl))), rfl, HR.out⟩
      case measure => simp [intOf]
    · have HR := Lib.hid hr.own
      have HB := Lib.hid hr.2.2
      clear hr
      go_wp2_with fail
      go_ret
      exact mkOwnB rfl HR.out HB.out

end Go.Proofs.Ytdiiolbkjmhmdaa
