/- The framer as a plain function on lists of bytes: no program in sight. -/
import Derived.Test.YtdiiolbkjmhmdaaHdV
namespace Go.Proofs.Ytdiiolbkjmhmdaa
open Go.RowKit
set_option linter.unusedSimpArgs false
set_option linter.unusedVariables false

structure Ev where
  fr : List Int
  va : Int
  vb : Int
  vc : Int
  ve : Int
  ds : List Int
structure St where
  kept : List Int
  len : Int
  closed : Bool
  frames : Int

/-- The event of a verdict. -/
def evV (a : Ans) : Ev := ⟨[], a.va, a.vb, a.vc, a.ve, a.ds⟩
def evF (xs : List Int) : Ev := ⟨xs, 0, 0, 0, 0, []⟩
/-- Is the header looked at behind the byte c? -/
def looks (kept : List Int) (c : Int) : Bool := (decide (kept.length ≤ 16) && decide (c ≠ 255)) || decide (kept.length = 19)
/-- The byte c is given. -/
def one (b : Bool) (s : St) (c : Int) : St × List Ev :=
  if looks (s.kept ++ [c]) c = true then
    if (hdr b (s.kept ++ [c])).va ≠ 0 then (⟨[], s.len, true, s.frames⟩, [evV (hdr b (s.kept ++ [c]))])
    else if 19 ≤ (s.kept ++ [c]).length ∧ ((s.kept ++ [c]).length : Int) = (hdr b (s.kept ++ [c])).n then (⟨[], (hdr b (s.kept ++ [c])).n, s.closed, s.frames + 1⟩, [evF (s.kept ++ [c])])
    else (⟨s.kept ++ [c], (hdr b (s.kept ++ [c])).n, s.closed, s.frames⟩, [])
  else if 19 ≤ (s.kept ++ [c]).length ∧ ((s.kept ++ [c]).length : Int) = s.len then (⟨[], s.len, s.closed, s.frames + 1⟩, [evF (s.kept ++ [c])])
  else (⟨s.kept ++ [c], s.len, s.closed, s.frames⟩, [])
/-- Bytes are given, one by one. -/
def feed (b : Bool) : St → List Int → St × List Ev
  | s, [] => (s, [])
  | s, c :: r => if s.closed = true then (s, []) else ((feed b (one b s c).1 r).1, (one b s c).2 ++ (feed b (one b s c).1 r).2)

theorem feed_closed {b : Bool} {s : St} (h : s.closed = true) : ∀ xs, feed b s xs = (s, [])
  | [] => rfl
  | c :: r => by unfold feed; rw [if_pos h]
theorem feed_cons {b : Bool} {s : St} {c : Int} {r : List Int} (h : ¬ s.closed = true) : feed b s (c :: r) = ((feed b (one b s c).1 r).1, (one b s c).2 ++ (feed b (one b s c).1 r).2) := by
  conv => lhs; unfold feed
  rw [if_neg h]
theorem feed_append (b : Bool) : ∀ (xs : List Int) (s : St) (ys : List Int), feed b s (xs ++ ys) = ((feed b (feed b s xs).1 ys).1, (feed b s xs).2 ++ (feed b (feed b s xs).1 ys).2)
  | [], s, ys => by simp [feed]
  | c :: r, s, ys => by
    by_cases h : s.closed = true
    · rw [feed_closed h, feed_closed h, feed_closed h]; rfl
    · rw [List.cons_append, feed_cons h, feed_cons h, feed_append b r]
      simp [List.append_assoc]
/-- Where nothing is looked at and the message is not complete the bytes are kept. -/
theorem feed_keep (b : Bool) : ∀ (xs : List Int) (s : St), ¬ s.closed = true →
    (∀ j, j < xs.length → looks (s.kept ++ xs.take (j + 1)) (xs.getD j 0) = false ∧ ¬ (19 ≤ s.kept.length + (j + 1) ∧ ((s.kept.length + (j + 1) : Nat) : Int) = s.len)) →
    feed b s xs = (⟨s.kept ++ xs, s.len, s.closed, s.frames⟩, [])
  | [], s, _, _ => by simp [feed]
  | c :: r, s, hc, h => by
    have h0 := h 0 (by simp)
    have e0 : looks (s.kept ++ [c]) c = false := by simpa using h0.1
    have e1 : one b s c = (⟨s.kept ++ [c], s.len, s.closed, s.frames⟩, []) := by
      unfold one
      rw [e0, if_neg (by simp), if_neg (by have := h0.2; simpa using this)]
    rw [feed_cons hc, e1]
    rw [feed_keep b r ⟨s.kept ++ [c], s.len, s.closed, s.frames⟩ hc fun j hj => ?_]
    · simp
    · have := h (j + 1) (by simpa using hj)
      refine ⟨by simpa using this.1, ?_⟩
      have h2 := this.2
      simp only [List.length_append, List.length_cons, List.length_nil] at h2 ⊢
      have e : s.kept.length + (0 + 1) + (j + 1) = s.kept.length + (j + 1 + 1) := by omega
      rw [e]; exact h2

/-- What holds of every state that is met. -/
structure Ok (s : St) : Prop where
  bytes : ∀ x ∈ s.kept, 0 ≤ x ∧ x ≤ 255
  closed : s.closed = true → s.kept = []
  front : ∀ j, j < 16 → j < s.kept.length → s.kept.getD j 0 = 255
  long : 19 ≤ s.kept.length → (s.kept.length : Int) < s.len ∧ s.len ≤ 65535
theorem Ok.len_lt {s : St} (h : Ok s) : s.kept.length < 65535 := by
  by_cases h19 : 19 ≤ s.kept.length
  · have := h.long h19; omega
  · omega
/-- The length that is wanted: 0 as long as it is not known. -/
def St.want (s : St) : Int := if s.kept.length < 19 then 0 else s.len

theorem getD_append_left (xs ys : List Int) {j : Nat} (h : j < xs.length) : (xs ++ ys).getD j 0 = xs.getD j 0 := by
  simp [List.getD_eq_getElem?_getD, List.getElem?_append, h]
theorem getD_append_right (xs ys : List Int) {j : Nat} (h : xs.length ≤ j) : (xs ++ ys).getD j 0 = ys.getD (j - xs.length) 0 := by
  simp [List.getD_eq_getElem?_getD, List.getElem?_append, Nat.not_lt.2 h]
theorem hdr_short {b : Bool} {xs : List Int} (h : mark (xs.take 16) = none) (hs : xs.length < 19) : hdr b xs = ⟨0, 0, 4, 1, 2, xs.length, []⟩ := by
  rw [hdr_none h rfl rfl rfl rfl rfl rfl rfl, if_pos hs]
theorem hdr_19 {b : Bool} {xs : List Int} (h : mark (xs.take 16) = none) (hs : 19 ≤ xs.length) (h1 : ¬ (hdr b xs).va = 0) : (hdr b xs).vc ≠ 1 ∧ (hdr b xs).va = 4 := by
  rw [hdr_none h rfl rfl rfl rfl rfl rfl rfl, if_neg (by omega)] at h1 ⊢
  split
  · simp
  split
  · simp
  split
  · simp
  split
  · simp
  split
  · simp
  rename_i c1 c2 c3 c4 c5
  rw [if_neg c1, if_neg c2, if_neg c3, if_neg c4, if_neg c5] at h1
  simp at h1
theorem hdr_len {b : Bool} {xs : List Int} (h : mark (xs.take 16) = none) (hs : 19 ≤ xs.length) (h1 : (hdr b xs).va = 0) : 19 ≤ (hdr b xs).n ∧ (hdr b xs).n ≤ mostK b := by
  rw [hdr_none h rfl rfl rfl rfl rfl rfl rfl, if_neg (by omega)] at h1 ⊢
  split at h1
  · simp at h1
  split at h1
  · simp at h1
  split at h1
  · simp at h1
  split at h1
  · simp at h1
  split at h1
  · simp at h1
  rename_i c1 c2 c3 c4 c5
  rw [if_neg c1, if_neg c2, if_neg c3, if_neg c4, if_neg c5]
  exact ⟨by simp only; omega, by simp only; omega⟩
theorem mostK_le (b : Bool) : mostK b ≤ 65535 := by cases b <;> simp [mostK]

theorem mark_some_inv {xs : List Int} {p : Nat} (h : mark xs = some p) : p < xs.length ∧ ¬ xs.getD p 0 = 255 ∧ ∀ j, j < p → xs.getD j 0 = 255 := by
  rcases first_bad (fun j => xs.getD j 0 = 255) xs.length with ⟨q, h1, h2, h3⟩ | hall
  · have := mark_some h1 h3 h2
    rw [this] at h
    obtain rfl : q = p := by simpa using h
    exact ⟨h1, h2, h3⟩
  · rw [mark_none hall] at h; cases h
theorem mark_none_inv {xs : List Int} (h : mark xs = none) : ∀ j, j < xs.length → xs.getD j 0 = 255 := by
  rcases first_bad (fun j => xs.getD j 0 = 255) xs.length with ⟨q, h1, h2, h3⟩ | hall
  · have := mark_some h1 h3 h2
    rw [this] at h; cases h
  · exact hall

theorem looks_no {xs : List Int} {c : Int} (h : xs.length ≤ 16 → c = 255) (h19 : xs.length ≠ 19) : looks xs c = false := by
  unfold looks
  by_cases h1 : xs.length ≤ 16
  · simp [h h1, h19]
  · simp [h1, h19]

/-- One step of the program: at most up to the header's end (fewer than 19 bytes are kept), or on to the message's end. -/
structure StepR (b : Bool) (s : St) (bs : List Int) where
  rest : List Int
  evs : List Ev
  st : St
def Good (b : Bool) (s : St) (bs rest : List Int) (evs : List Ev) (s' : St) : Prop :=
  Ok s' ∧ rest.length < bs.length ∧ (∃ q, rest = bs.drop q) ∧ feed b s bs = ((feed b s' rest).1, evs ++ (feed b s' rest).2) ∧ s'.frames + rest.length ≤ s.frames + bs.length

theorem take_short {xs ys : List Int} {j : Nat} (h : j < xs.length) (h2 : xs = ys) : ys.getD j 0 = xs.getD j 0 := by rw [h2]

/-- The marker is wrong. -/
theorem good_mark {b : Bool} {s : St} {bs : List Int} (ok : Ok s) (hc : ¬ s.closed = true) (hk : s.kept.length < 19) {k p : Nat} (hkk : k = min (19 - s.kept.length) bs.length) (hm : mark ((s.kept ++ bs.take k).take 16) = some p) :
    Good b s bs [] [evV (hdr b (s.kept ++ bs.take k))] ⟨[], s.len, true, s.frames⟩ := by
  obtain ⟨h1, h2, h3⟩ := mark_some_inv hm
  have hl : ((s.kept ++ bs.take k).take 16).length = min 16 (s.kept.length + k) := by simp; omega
  rw [hl] at h1
  have hp16 : p < 16 := by omega
  have hg : ∀ j, j < 16 → ((s.kept ++ bs.take k).take 16).getD j 0 = (s.kept ++ bs.take k).getD j 0 := fun j hj => getD_take _ hj
  rw [hg p hp16] at h2
  have hpk : s.kept.length ≤ p := by
    rcases Nat.lt_or_ge p s.kept.length with h | h
    · rw [getD_append_left _ _ h] at h2
      exact absurd (ok.front p hp16 h) h2
    · exact h
  obtain ⟨i, hi⟩ : ∃ i, i = p - s.kept.length := ⟨_, rfl⟩
  have hib : i < bs.length := by omega
  have hik : i < k := by omega
  have hci : ¬ bs.getD i 0 = 255 := by
    rw [getD_append_right _ _ hpk, ← hi, getD_take _ hik] at h2
    exact h2
  have hlow : ∀ j, j < i → bs.getD j 0 = 255 := fun j hj => by
    have := h3 (s.kept.length + j) (by omega)
    rw [hg _ (by omega), getD_append_right _ _ (by omega), Nat.add_sub_cancel_left, getD_take _ (by omega)] at this
    exact this
  have hH : ∀ q, p < q → q ≤ s.kept.length + k → hdr b (s.kept ++ bs.take (q - s.kept.length)) = ⟨0, 0, 4, 1, 1, p, []⟩ := fun q hq hqk => by
    refine hdr_mark (mark_some (by simp; omega) (fun j hj => ?_) ?_)
    · rw [getD_take _ (by omega)]
      rcases Nat.lt_or_ge j s.kept.length with h | h
      · rw [getD_append_left _ _ h]; exact ok.front j (by omega) h
      · rw [getD_append_right _ _ h, getD_take _ (by omega)]; exact hlow _ (by omega)
    · rw [getD_take _ (by omega), getD_append_right _ _ hpk, getD_take _ (by omega), ← hi]; exact hci
  have hA := hH (s.kept.length + k) (by omega) (Nat.le_refl _)
  rw [Nat.add_sub_cancel_left] at hA
  have hB := hH (p + 1) (by omega) (by omega)
  rw [show p + 1 - s.kept.length = i + 1 by omega] at hB
  refine ⟨⟨by simp, fun _ => rfl, by simp, by simp⟩, by simp; omega, ⟨bs.length, by simp⟩, ?_, by simp; omega⟩
  rw [hA]
  have e : bs = bs.take i ++ (bs.getD i 0 :: bs.drop (i + 1)) := by
    conv => lhs; rw [← List.take_append_drop i bs]
    rw [List.drop_eq_getElem_cons hib]
    simp [List.getD_eq_getElem?_getD, hib]
  have e1 : feed b s (bs.take i) = (⟨s.kept ++ bs.take i, s.len, s.closed, s.frames⟩, []) := by
    refine feed_keep b _ s hc fun j hj => ?_
    rw [List.length_take] at hj
    refine ⟨looks_no (fun _ => ?_) (by simp; omega), by omega⟩
    rw [getD_take _ (by omega)]; exact hlow j (by omega)
  have e2 : one b ⟨s.kept ++ bs.take i, s.len, s.closed, s.frames⟩ (bs.getD i 0) = (⟨[], s.len, true, s.frames⟩, [evV ⟨0, 0, 4, 1, 1, p, []⟩]) := by
    have e3 : s.kept ++ bs.take i ++ [bs.getD i 0] = s.kept ++ bs.take (i + 1) := by
      rw [List.append_assoc, List.take_succ_eq_append_getElem hib]
      simp [List.getD_eq_getElem?_getD, hib]
    unfold one
    simp only [e3, hB]
    have e4 : looks (s.kept ++ bs.take (i + 1)) (bs.getD i 0) = true := by
      unfold looks
      have : (s.kept ++ bs.take (i + 1)).length ≤ 16 := by simp; omega
      simp only [this, decide_true, Bool.true_and, Bool.or_eq_true, decide_eq_true_eq]
      exact .inl hci
    rw [if_pos e4, if_pos (by decide)]
  rw [e, feed_append, e1]
  rw [feed_cons (by exact hc), e2, feed_closed rfl, feed_closed rfl]
  simp

theorem no_mark_keep {b : Bool} {s : St} {bs : List Int} (ok : Ok s) (hc : ¬ s.closed = true) {k : Nat} (hk : s.kept.length + k < 19) (hkb : k ≤ bs.length) (hall : ∀ j, j < k → s.kept.length + j < 16 → bs.getD j 0 = 255) :
    feed b s (bs.take k) = (⟨s.kept ++ bs.take k, s.len, s.closed, s.frames⟩, []) := by
  refine feed_keep b _ s hc fun j hj => ?_
  rw [List.length_take] at hj
  refine ⟨looks_no (fun h => ?_) (by simp; omega), by omega⟩
  rw [getD_take _ (by omega)]
  simp at h
  exact hall j (by omega) (by omega)
theorem mark_low {s : St} {bs : List Int} {k : Nat} (hkb : k ≤ bs.length) (hm : mark ((s.kept ++ bs.take k).take 16) = none) : ∀ j, j < k → s.kept.length + j < 16 → bs.getD j 0 = 255 := fun j hj h16 => by
  have := mark_none_inv hm (s.kept.length + j) (by simp; omega)
  rw [getD_take _ h16, getD_append_right _ _ (by omega), Nat.add_sub_cancel_left, getD_take _ hj] at this
  exact this

/-- Still fewer than 19 bytes. -/
theorem good_short {b : Bool} {s : St} {bs : List Int} (ok : Ok s) (hc : ¬ s.closed = true) (hb : ∀ x ∈ bs, 0 ≤ x ∧ x ≤ 255) (h0 : 0 < bs.length) {k : Nat} (hkk : k = min (19 - s.kept.length) bs.length) (hm : mark ((s.kept ++ bs.take k).take 16) = none) (hs : s.kept.length + k < 19) :
    Good b s bs (bs.drop k) [] ⟨s.kept ++ bs.take k, s.len, s.closed, s.frames⟩ := by
  have hkb : k = bs.length := by omega
  have hd : bs.drop k = [] := by rw [hkb]; simp
  have ht : bs.take k = bs := by rw [hkb]; simp
  refine ⟨⟨fun x hx => ?_, fun h => absurd h hc, fun j h16 hj => ?_, fun h => by simp at h; omega⟩, by simp; omega, ⟨k, rfl⟩, ?_, by simp⟩
  · rcases List.mem_append.1 hx with h | h
    · exact ok.bytes x h
    · exact hb x (List.mem_of_mem_take h)
  · have := mark_none_inv hm j (by rw [List.length_take]; exact Nat.lt_min.2 ⟨h16, hj⟩)
    rw [getD_take _ h16] at this
    exact this
  · have := no_mark_keep (b := b) ok hc hs (by omega) (mark_low (by omega) hm)
    rw [hd]
    rw [ht] at this ⊢
    rw [this]
    simp [feed]

theorem split_at {bs : List Int} {i : Nat} (hib : i < bs.length) : bs.take (i + 1) = bs.take i ++ [bs.getD i 0] := by
  rw [List.take_succ_eq_append_getElem hib]
  simp [List.getD_eq_getElem?_getD, hib]

/-- 19 bytes that are no header. -/
theorem good_bad {b : Bool} {s : St} {bs : List Int} (ok : Ok s) (hc : ¬ s.closed = true) {k : Nat} (hkb : k ≤ bs.length) (hk0 : 0 < k) (hs : s.kept.length + k = 19) (hm : mark ((s.kept ++ bs.take k).take 16) = none) (hv : ¬ (hdr b (s.kept ++ bs.take k)).va = 0) :
    Good b s bs [] [evV (hdr b (s.kept ++ bs.take k))] ⟨[], s.len, true, s.frames⟩ := by
  refine ⟨⟨by simp, fun _ => rfl, by simp, by simp⟩, by simp; omega, ⟨bs.length, by simp⟩, ?_, by simp; omega⟩
  obtain ⟨i, rfl⟩ : ∃ i, k = i + 1 := ⟨k - 1, by omega⟩
  have e : bs = bs.take (i + 1) ++ bs.drop (i + 1) := (List.take_append_drop _ _).symm
  have e1 := no_mark_keep (b := b) (k := i) ok hc (by omega) (by omega) (fun j hj h => mark_low hkb hm j (by omega) h)
  have e2 : one b ⟨s.kept ++ bs.take i, s.len, s.closed, s.frames⟩ (bs.getD i 0) = (⟨[], s.len, true, s.frames⟩, [evV (hdr b (s.kept ++ bs.take (i + 1)))]) := by
    have e3 : s.kept ++ bs.take i ++ [bs.getD i 0] = s.kept ++ bs.take (i + 1) := by rw [List.append_assoc, split_at (by omega)]
    unfold one
    simp only [e3]
    have e4 : looks (s.kept ++ bs.take (i + 1)) (bs.getD i 0) = true := by
      unfold looks
      have : (s.kept ++ bs.take (i + 1)).length = 19 := by simp; omega
      simp [this]
    rw [if_pos e4, if_pos hv]
  conv => lhs; rw [e]
  rw [feed_append, split_at (by omega), feed_append, e1]
  rw [feed_cons (by exact hc), e2]
  rw [← split_at (by omega)]
  simp [feed, feed_closed]

/-- Bytes behind the header. -/
theorem good_body {b : Bool} {s : St} {bs : List Int} (ok : Ok s) (hc : ¬ s.closed = true) (hb : ∀ x ∈ bs, 0 ≤ x ∧ x ≤ 255) (h19 : 19 ≤ s.kept.length) {k : Nat} (hkk : (k : Int) = min (s.len - s.kept.length) bs.length) (h0 : 0 < bs.length) :
    if s.kept.length + k < s.len then Good b s bs (bs.drop k) [] ⟨s.kept ++ bs.take k, s.len, s.closed, s.frames⟩ else Good b s bs (bs.drop k) [evF (s.kept ++ bs.take k)] ⟨[], s.len, s.closed, s.frames + 1⟩ := by
  have hl := ok.long h19
  have hkb : k ≤ bs.length := by omega
  have keep : ∀ i, i ≤ k → s.kept.length + i < s.len → feed b s (bs.take i) = (⟨s.kept ++ bs.take i, s.len, s.closed, s.frames⟩, []) := fun i hi hlt => by
    refine feed_keep b _ s hc fun j hj => ?_
    rw [List.length_take] at hj
    exact ⟨looks_no (fun h => by simp at h; omega) (by simp; omega), by omega⟩
  have e : bs = bs.take k ++ bs.drop k := (List.take_append_drop _ _).symm
  split
  · rename_i hlt
    refine ⟨⟨fun x hx => ?_, fun h => absurd h hc, fun j h16 hj => ?_, fun _ => by simp; omega⟩, by simp; omega, ⟨k, rfl⟩, ?_, by simp⟩
    · rcases List.mem_append.1 hx with h | h
      · exact ok.bytes x h
      · exact hb x (List.mem_of_mem_take h)
    · simp only
      rw [getD_append_left _ _ (by omega)]
      exact ok.front j h16 (by omega)
    · conv => lhs; rw [e]
      rw [feed_append, keep k (Nat.le_refl _) hlt]
  · rename_i hlt
    refine ⟨⟨by simp, fun _ => rfl, by simp, by simp⟩, by simp; omega, ⟨k, rfl⟩, ?_, by simp; omega⟩
    obtain ⟨i, rfl⟩ : ∃ i, k = i + 1 := ⟨k - 1, by omega⟩
    have e2 : one b ⟨s.kept ++ bs.take i, s.len, s.closed, s.frames⟩ (bs.getD i 0) = (⟨[], s.len, s.closed, s.frames + 1⟩, [evF (s.kept ++ bs.take (i + 1))]) := by
      have e3 : s.kept ++ bs.take i ++ [bs.getD i 0] = s.kept ++ bs.take (i + 1) := by rw [List.append_assoc, split_at (by omega)]
      unfold one
      simp only [e3]
      have e4 : looks (s.kept ++ bs.take (i + 1)) (bs.getD i 0) = false := looks_no (fun h => by simp at h; omega) (by simp; omega)
      rw [e4, if_neg (by simp), if_pos (by simp; omega)]
    conv => lhs; rw [e]
    rw [feed_append, split_at (by omega), feed_append, keep i (by omega) (by omega)]
    rw [feed_cons (by exact hc), e2]
    rw [← split_at (by omega)]
    simp [feed]

/-- A header is complete. -/
theorem good_head {b : Bool} {s : St} {bs : List Int} (ok : Ok s) (hc : ¬ s.closed = true) (hb : ∀ x ∈ bs, 0 ≤ x ∧ x ≤ 255) {k : Nat} (hkb : k ≤ bs.length) (hk0 : 0 < k) (hs : s.kept.length + k = 19) (hm : mark ((s.kept ++ bs.take k).take 16) = none) {n : Int} (hv : (hdr b (s.kept ++ bs.take k)).va = 0) (hn : n = (hdr b (s.kept ++ bs.take k)).n)
    {k2 : Nat} (hk2 : (k2 : Int) = min (n - 19) (bs.drop k).length) :
    if ((19 + k2 : Nat) : Int) < n then Good b s bs ((bs.drop k).drop k2) [] ⟨s.kept ++ bs.take k ++ (bs.drop k).take k2, n, s.closed, s.frames⟩ else Good b s bs ((bs.drop k).drop k2) [evF (s.kept ++ bs.take k ++ (bs.drop k).take k2)] ⟨[], n, s.closed, s.frames + 1⟩ := by
  obtain ⟨hn19, hnm⟩ := hdr_len hm (by simp; omega) hv
  rw [← hn] at hn19 hnm
  have hnm2 := mostK_le b
  have hl19 : (s.kept ++ bs.take k).length = 19 := by simp; omega
  obtain ⟨i, hi⟩ : ∃ i, k = i + 1 := ⟨k - 1, by omega⟩
  have e1 := no_mark_keep (b := b) (k := i) ok hc (by omega) (by omega) (fun j hj h => mark_low hkb hm j (by omega) h)
  have e3 : s.kept ++ bs.take i ++ [bs.getD i 0] = s.kept ++ bs.take k := by rw [List.append_assoc, hi, split_at (by omega)]
  have e4 : looks (s.kept ++ bs.take k) (bs.getD i 0) = true := by unfold looks; simp [hl19]
  have ek : bs.take k = bs.take i ++ [bs.getD i 0] := by rw [hi, split_at (by omega)]
  have e : bs = bs.take k ++ bs.drop k := (List.take_append_drop _ _).symm
  have hbd : ∀ x ∈ s.kept ++ bs.take k, 0 ≤ x ∧ x ≤ 255 := fun x hx => by
    rcases List.mem_append.1 hx with h | h
    · exact ok.bytes x h
    · exact hb x (List.mem_of_mem_take h)
  by_cases hnn : n = 19
  · have e5 : one b ⟨s.kept ++ bs.take i, s.len, s.closed, s.frames⟩ (bs.getD i 0) = (⟨[], n, s.closed, s.frames + 1⟩, [evF (s.kept ++ bs.take k)]) := by
      unfold one
      simp only [e3]
      rw [if_pos e4, if_neg (by simpa using hv), if_pos ⟨by omega, by rw [← hn, hl19]; omega⟩, ← hn]
    have hk20 : k2 = 0 := by omega
    rw [if_neg (by omega)]
    subst hk20
    refine ⟨⟨by simp, fun _ => rfl, by simp, by simp⟩, by simp; omega, ⟨k, by simp⟩, ?_, by simp; omega⟩
    conv => lhs; rw [e]
    rw [feed_append]
    conv => lhs; rw [ek]
    rw [feed_append, e1, feed_cons (by exact hc), e5]
    simp [feed]
  · have e5 : one b ⟨s.kept ++ bs.take i, s.len, s.closed, s.frames⟩ (bs.getD i 0) = (⟨s.kept ++ bs.take k, n, s.closed, s.frames⟩, []) := by
      unfold one
      simp only [e3]
      rw [if_pos e4, if_neg (by simpa using hv), if_neg (by rw [← hn, hl19]; omega), ← hn]
    have okm : Ok ⟨s.kept ++ bs.take k, n, s.closed, s.frames⟩ := ⟨hbd, fun h => absurd h hc, fun j h16 hj => by
      have := mark_none_inv hm j (by rw [List.length_take]; exact Nat.lt_min.2 ⟨h16, hj⟩)
      rw [getD_take _ h16] at this
      exact this, fun _ => by simp only; omega⟩
    have efd : feed b s bs = feed b ⟨s.kept ++ bs.take k, n, s.closed, s.frames⟩ (bs.drop k) := by
      conv => lhs; rw [e]
      rw [feed_append]
      conv => lhs; rw [ek]
      rw [feed_append, e1, feed_cons (by exact hc), e5]
      simp [feed]
    by_cases hd : (bs.drop k).length = 0
    · have hk20 : k2 = 0 := by omega
      have hd' : bs.drop k = [] := List.eq_nil_of_length_eq_zero hd
      rw [if_pos (by omega)]
      subst hk20
      rw [hd'] at efd ⊢
      refine ⟨by simpa using okm, by simp; omega, ⟨bs.length, by simp⟩, by rw [efd]; simp [feed], by simp; omega⟩
    · have hbod := good_body (b := b) okm (by exact hc) (fun x hx => hb x (List.mem_of_mem_drop hx)) (by simp only; omega) (k := k2) (bs := bs.drop k) (by simp only; rw [hl19]; exact hk2) (by omega)
      simp only [hl19] at hbod
      rw [List.length_drop] at hd
      split
      · rename_i hlt
        rw [if_pos (by omega)] at hbod
        obtain ⟨r1, r2, ⟨q, r3⟩, r4, r5⟩ := hbod
        exact ⟨r1, by simp at r2 ⊢; omega, ⟨k + k2, by simp⟩, by rw [efd]; exact r4, by simp only [List.length_drop] at r5 ⊢; omega⟩
      · rename_i hlt
        rw [if_neg (by omega)] at hbod
        obtain ⟨r1, r2, ⟨q, r3⟩, r4, r5⟩ := hbod
        exact ⟨r1, by simp at r2 ⊢; omega, ⟨k + k2, by simp⟩, by rw [efd]; exact r4, by simp only [List.length_drop] at r5 ⊢; omega⟩

end Go.Proofs.Ytdiiolbkjmhmdaa
