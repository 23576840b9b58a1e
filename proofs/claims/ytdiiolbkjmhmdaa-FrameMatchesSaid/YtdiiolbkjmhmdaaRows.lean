/-
  No cell of these rows narrows 'for every input' (looked for: loops, veiled, ifaces, maps, wideKeys, modest, calm, conditions, laid).
  DERIVED. THE GIVEN ROWS OF THIS SEAT. 10 by the template 'for every input the law returns true; each argument reads behind the call as it read before'; 0 by the template 'total and deterministic' (their statements: YtdiiolbkjmhmdaaTotals.lean).
  GIVEN WITH THE SEED: the statements are not yours to turn. If you find one false, say at which input.
  Laid BY PROGRAM, IN A SANDBOX (cutbox-rows.mjs): the forced cells as the released guide's own fill.sh prints them over the translation a62608618fc1189f… (all of the seat's roots in one cut). By AI agents, Wed Nov 11 2026. No macro, syntax, notation, axiom, sorry.
-/
import Derived.Test.YtdiiolbkjmhmdaaChecked
import GoSem.Claim
import GoSem.ClaimJoined
import GoSem.ClaimMapViews
import Derived.JoinedTies
import Derived.KernelRfl
namespace Go.Proofs.Ytdiiolbkjmhmdaa
/- THE CELL 'sum', in the pinned program and in every row, IS THE sha256 OF THE DUMP (.gsa) THAT YtdiiolbkjmhmdaaProg.lean LOADS. Nothing in Lean hashes anything: it is a label: what it is worth is what the hold of that sum in a sandbox is worth. -/
noncomputable def Try.pinned : Pinned := { name := "ytdiiolbkjmhmdaa", sum := "a62608618fc1189f48a74c6ef95807f86cc8ec45c23b1168210639ecfdda6a1d", checked := Try.checked }
namespace Rows
def none {H : Type} : Left H := { results := [], args := [] }

/-- 'peeragelaw04.HeaderForms': WHATEVER THE INPUT: true; the input reads as it did. -/
def headerFormsSpec : ChangeSpec := { name := "headerForms", fn := fun _ => fun
  | [d1, d2, d3] => { results := [.lit (.bool true)], args := [d1, d2, d3] }
  | _ => none }
def headerFormsRow : OpenClaim := { program := "ytdiiolbkjmhmdaa", sum := "a62608618fc1189f48a74c6ef95807f86cc8ec45c23b1168210639ecfdda6a1d", func := "peerage/peeragelaw04.HeaderForms", spec := "headerForms", apart := false }
def HeaderFormsSaid : Prop := headerFormsRow.holds Try.pinned (OpenSpec.ofChange headerFormsSpec)

/-- ITS FALSE NEIGHBOUR: 'it returns false'. Refute it at one input. -/
def headerFormsWrong : ChangeSpec := { name := "headerForms", fn := fun _ => fun
  | [d1, d2, d3] => { results := [.lit (.bool false)], args := [d1, d2, d3] }
  | _ => none }
def HeaderFormsWrongFalsely : Prop := headerFormsRow.holds Try.pinned (OpenSpec.ofChange headerFormsWrong)

/-- 'peeragelaw04.HeaderParses': WHATEVER THE INPUT: true; the input reads as it did. -/
def headerParsesSpec : ChangeSpec := { name := "headerParses", fn := fun _ => fun
  | [d1, d2] => { results := [.lit (.bool true)], args := [d1, d2] }
  | _ => none }
def headerParsesRow : OpenClaim := { program := "ytdiiolbkjmhmdaa", sum := "a62608618fc1189f48a74c6ef95807f86cc8ec45c23b1168210639ecfdda6a1d", func := "peerage/peeragelaw04.HeaderParses", spec := "headerParses", unfollowed := true, recurses := true, apart := false }
def HeaderParsesSaid : Prop := headerParsesRow.holds Try.pinned (OpenSpec.ofChange headerParsesSpec)

/-- ITS FALSE NEIGHBOUR: 'it returns false'. Refute it at one input. -/
def headerParsesWrong : ChangeSpec := { name := "headerParses", fn := fun _ => fun
  | [d1, d2] => { results := [.lit (.bool false)], args := [d1, d2] }
  | _ => none }
def HeaderParsesWrongFalsely : Prop := headerParsesRow.holds Try.pinned (OpenSpec.ofChange headerParsesWrong)

/-- 'peeragelaw04.HeaderMarkers': WHATEVER THE INPUT: true; the input reads as it did. -/
def headerMarkersSpec : ChangeSpec := { name := "headerMarkers", fn := fun _ => fun
  | [d1, d2, d3] => { results := [.lit (.bool true)], args := [d1, d2, d3] }
  | _ => none }
def headerMarkersRow : OpenClaim := { program := "ytdiiolbkjmhmdaa", sum := "a62608618fc1189f48a74c6ef95807f86cc8ec45c23b1168210639ecfdda6a1d", func := "peerage/peeragelaw04.HeaderMarkers", spec := "headerMarkers", unfollowed := true, recurses := true, apart := false }
def HeaderMarkersSaid : Prop := headerMarkersRow.holds Try.pinned (OpenSpec.ofChange headerMarkersSpec)

/-- ITS FALSE NEIGHBOUR: 'it returns false'. Refute it at one input. -/
def headerMarkersWrong : ChangeSpec := { name := "headerMarkers", fn := fun _ => fun
  | [d1, d2, d3] => { results := [.lit (.bool false)], args := [d1, d2, d3] }
  | _ => none }
def HeaderMarkersWrongFalsely : Prop := headerMarkersRow.holds Try.pinned (OpenSpec.ofChange headerMarkersWrong)

/-- 'peeragelaw04.HeaderLengths': WHATEVER THE INPUT: true; the input reads as it did. -/
def headerLengthsSpec : ChangeSpec := { name := "headerLengths", fn := fun _ => fun
  | [d1, d2] => { results := [.lit (.bool true)], args := [d1, d2] }
  | _ => none }
def headerLengthsRow : OpenClaim := { program := "ytdiiolbkjmhmdaa", sum := "a62608618fc1189f48a74c6ef95807f86cc8ec45c23b1168210639ecfdda6a1d", func := "peerage/peeragelaw04.HeaderLengths", spec := "headerLengths", unfollowed := true, recurses := true, apart := false }
def HeaderLengthsSaid : Prop := headerLengthsRow.holds Try.pinned (OpenSpec.ofChange headerLengthsSpec)

/-- ITS FALSE NEIGHBOUR: 'it returns false'. Refute it at one input. -/
def headerLengthsWrong : ChangeSpec := { name := "headerLengths", fn := fun _ => fun
  | [d1, d2] => { results := [.lit (.bool false)], args := [d1, d2] }
  | _ => none }
def HeaderLengthsWrongFalsely : Prop := headerLengthsRow.holds Try.pinned (OpenSpec.ofChange headerLengthsWrong)

/-- 'peeragelaw04.HeaderWraps': WHATEVER THE INPUT: true; the input reads as it did. -/
def headerWrapsSpec : ChangeSpec := { name := "headerWraps", fn := fun _ => fun
  | [d1, d2, d3] => { results := [.lit (.bool true)], args := [d1, d2, d3] }
  | _ => none }
def headerWrapsRow : OpenClaim := { program := "ytdiiolbkjmhmdaa", sum := "a62608618fc1189f48a74c6ef95807f86cc8ec45c23b1168210639ecfdda6a1d", func := "peerage/peeragelaw04.HeaderWraps", spec := "headerWraps", unfollowed := true, recurses := true, apart := false }
def HeaderWrapsSaid : Prop := headerWrapsRow.holds Try.pinned (OpenSpec.ofChange headerWrapsSpec)

/-- ITS FALSE NEIGHBOUR: 'it returns false'. Refute it at one input. -/
def headerWrapsWrong : ChangeSpec := { name := "headerWraps", fn := fun _ => fun
  | [d1, d2, d3] => { results := [.lit (.bool false)], args := [d1, d2, d3] }
  | _ => none }
def HeaderWrapsWrongFalsely : Prop := headerWrapsRow.holds Try.pinned (OpenSpec.ofChange headerWrapsWrong)

/-- 'peeragelaw23.FrameBounds': WHATEVER THE INPUT: true; the input reads as it did. -/
def frameBoundsSpec : ChangeSpec := { name := "frameBounds", fn := fun _ => fun
  | [d1, d2, d3] => { results := [.lit (.bool true)], args := [d1, d2, d3] }
  | _ => none }
def frameBoundsRow : OpenClaim := { program := "ytdiiolbkjmhmdaa", sum := "a62608618fc1189f48a74c6ef95807f86cc8ec45c23b1168210639ecfdda6a1d", func := "peerage/peeragelaw23.FrameBounds", spec := "frameBounds", inPlace := ["sync/atomic.LoadUint32", "sync/atomic.StoreUint32", "(*internal/sync.Mutex).Lock", "internal/race.Disable", "sync/atomic.CompareAndSwapInt32", "internal/race.Enable", "internal/race.Acquire", "(*internal/sync.Mutex).lockSlow", "internal/sync.runtime_canSpin", "internal/sync.runtime_doSpin", "internal/sync.throw", "internal/sync.runtime_nanotime", "internal/sync.runtime_SemacquireMutex", "sync/atomic.AddInt32", "(*internal/sync.Mutex).Unlock", "internal/race.ReleaseMerge", "(*internal/sync.Mutex).unlockSlow", "internal/sync.fatal", "internal/sync.runtime_Semrelease", "sync/atomic.AddInt64", "sync/atomic.LoadInt64"], unfollowed := true, recurses := true, apart := false }
def FrameBoundsSaid : Prop := frameBoundsRow.holds Try.pinned (OpenSpec.ofChange frameBoundsSpec)

/-- ITS FALSE NEIGHBOUR: 'it returns false'. Refute it at one input. -/
def frameBoundsWrong : ChangeSpec := { name := "frameBounds", fn := fun _ => fun
  | [d1, d2, d3] => { results := [.lit (.bool false)], args := [d1, d2, d3] }
  | _ => none }
def FrameBoundsWrongFalsely : Prop := frameBoundsRow.holds Try.pinned (OpenSpec.ofChange frameBoundsWrong)

/-- 'peeragelaw23.FrameCuts': WHATEVER THE INPUT: true; the input reads as it did. -/
def frameCutsSpec : ChangeSpec := { name := "frameCuts", fn := fun _ => fun
  | [d1, d2] => { results := [.lit (.bool true)], args := [d1, d2] }
  | _ => none }
def frameCutsRow : OpenClaim := { program := "ytdiiolbkjmhmdaa", sum := "a62608618fc1189f48a74c6ef95807f86cc8ec45c23b1168210639ecfdda6a1d", func := "peerage/peeragelaw23.FrameCuts", spec := "frameCuts", inPlace := ["sync/atomic.LoadUint32", "sync/atomic.StoreUint32", "(*internal/sync.Mutex).Lock", "internal/race.Disable", "sync/atomic.CompareAndSwapInt32", "internal/race.Enable", "internal/race.Acquire", "(*internal/sync.Mutex).lockSlow", "internal/sync.runtime_canSpin", "internal/sync.runtime_doSpin", "internal/sync.throw", "internal/sync.runtime_nanotime", "internal/sync.runtime_SemacquireMutex", "sync/atomic.AddInt32", "(*internal/sync.Mutex).Unlock", "internal/race.ReleaseMerge", "(*internal/sync.Mutex).unlockSlow", "internal/sync.fatal", "internal/sync.runtime_Semrelease", "sync/atomic.AddInt64", "sync/atomic.LoadInt64"], unfollowed := true, recurses := true, apart := false }
def FrameCutsSaid : Prop := frameCutsRow.holds Try.pinned (OpenSpec.ofChange frameCutsSpec)

/-- ITS FALSE NEIGHBOUR: 'it returns false'. Refute it at one input. -/
def frameCutsWrong : ChangeSpec := { name := "frameCuts", fn := fun _ => fun
  | [d1, d2] => { results := [.lit (.bool false)], args := [d1, d2] }
  | _ => none }
def FrameCutsWrongFalsely : Prop := frameCutsRow.holds Try.pinned (OpenSpec.ofChange frameCutsWrong)

/-- 'peeragelaw23.FrameMatches': WHATEVER THE INPUT: true; the input reads as it did. -/
def frameMatchesSpec : ChangeSpec := { name := "frameMatches", fn := fun _ => fun
  | [d1, d2] => { results := [.lit (.bool true)], args := [d1, d2] }
  | _ => none }
def frameMatchesRow : OpenClaim := { program := "ytdiiolbkjmhmdaa", sum := "a62608618fc1189f48a74c6ef95807f86cc8ec45c23b1168210639ecfdda6a1d", func := "peerage/peeragelaw23.FrameMatches", spec := "frameMatches", inPlace := ["sync/atomic.LoadUint32", "sync/atomic.StoreUint32", "(*internal/sync.Mutex).Lock", "internal/race.Disable", "sync/atomic.CompareAndSwapInt32", "internal/race.Enable", "internal/race.Acquire", "(*internal/sync.Mutex).lockSlow", "internal/sync.runtime_canSpin", "internal/sync.runtime_doSpin", "internal/sync.throw", "internal/sync.runtime_nanotime", "internal/sync.runtime_SemacquireMutex", "sync/atomic.AddInt32", "(*internal/sync.Mutex).Unlock", "internal/race.ReleaseMerge", "(*internal/sync.Mutex).unlockSlow", "internal/sync.fatal", "internal/sync.runtime_Semrelease", "sync/atomic.AddInt64", "sync/atomic.LoadInt64"], unfollowed := true, recurses := true, apart := false }
def FrameMatchesSaid : Prop := frameMatchesRow.holds Try.pinned (OpenSpec.ofChange frameMatchesSpec)

/-- ITS FALSE NEIGHBOUR: 'it returns false'. Refute it at one input. -/
def frameMatchesWrong : ChangeSpec := { name := "frameMatches", fn := fun _ => fun
  | [d1, d2] => { results := [.lit (.bool false)], args := [d1, d2] }
  | _ => none }
def FrameMatchesWrongFalsely : Prop := frameMatchesRow.holds Try.pinned (OpenSpec.ofChange frameMatchesWrong)

/-- 'peeragelaw23.FrameNil': WHATEVER THE INPUT: true; the input reads as it did. -/
def frameNilSpec : ChangeSpec := { name := "frameNil", fn := fun _ => fun
  | [d1, d2, d3] => { results := [.lit (.bool true)], args := [d1, d2, d3] }
  | _ => none }
def frameNilRow : OpenClaim := { program := "ytdiiolbkjmhmdaa", sum := "a62608618fc1189f48a74c6ef95807f86cc8ec45c23b1168210639ecfdda6a1d", func := "peerage/peeragelaw23.FrameNil", spec := "frameNil", inPlace := ["sync/atomic.LoadUint32", "sync/atomic.StoreUint32", "(*internal/sync.Mutex).Lock", "internal/race.Disable", "sync/atomic.CompareAndSwapInt32", "internal/race.Enable", "internal/race.Acquire", "(*internal/sync.Mutex).lockSlow", "internal/sync.runtime_canSpin", "internal/sync.runtime_doSpin", "internal/sync.throw", "internal/sync.runtime_nanotime", "internal/sync.runtime_SemacquireMutex", "sync/atomic.AddInt32", "(*internal/sync.Mutex).Unlock", "internal/race.ReleaseMerge", "(*internal/sync.Mutex).unlockSlow", "internal/sync.fatal", "internal/sync.runtime_Semrelease", "sync/atomic.AddInt64", "sync/atomic.LoadInt64"], unfollowed := true, recurses := true, apart := false }
def FrameNilSaid : Prop := frameNilRow.holds Try.pinned (OpenSpec.ofChange frameNilSpec)

/-- ITS FALSE NEIGHBOUR: 'it returns false'. Refute it at one input. -/
def frameNilWrong : ChangeSpec := { name := "frameNil", fn := fun _ => fun
  | [d1, d2, d3] => { results := [.lit (.bool false)], args := [d1, d2, d3] }
  | _ => none }
def FrameNilWrongFalsely : Prop := frameNilRow.holds Try.pinned (OpenSpec.ofChange frameNilWrong)

/-- 'peeragelaw23.FrameOnce': WHATEVER THE INPUT: true; the input reads as it did. -/
def frameOnceSpec : ChangeSpec := { name := "frameOnce", fn := fun _ => fun
  | [d1, d2, d3] => { results := [.lit (.bool true)], args := [d1, d2, d3] }
  | _ => none }
def frameOnceRow : OpenClaim := { program := "ytdiiolbkjmhmdaa", sum := "a62608618fc1189f48a74c6ef95807f86cc8ec45c23b1168210639ecfdda6a1d", func := "peerage/peeragelaw23.FrameOnce", spec := "frameOnce", inPlace := ["sync/atomic.LoadUint32", "sync/atomic.StoreUint32", "(*internal/sync.Mutex).Lock", "internal/race.Disable", "sync/atomic.CompareAndSwapInt32", "internal/race.Enable", "internal/race.Acquire", "(*internal/sync.Mutex).lockSlow", "internal/sync.runtime_canSpin", "internal/sync.runtime_doSpin", "internal/sync.throw", "internal/sync.runtime_nanotime", "internal/sync.runtime_SemacquireMutex", "sync/atomic.AddInt32", "(*internal/sync.Mutex).Unlock", "internal/race.ReleaseMerge", "(*internal/sync.Mutex).unlockSlow", "internal/sync.fatal", "internal/sync.runtime_Semrelease", "sync/atomic.AddInt64", "sync/atomic.LoadInt64"], unfollowed := true, recurses := true, apart := false }
def FrameOnceSaid : Prop := frameOnceRow.holds Try.pinned (OpenSpec.ofChange frameOnceSpec)

/-- ITS FALSE NEIGHBOUR: 'it returns false'. Refute it at one input. -/
def frameOnceWrong : ChangeSpec := { name := "frameOnce", fn := fun _ => fun
  | [d1, d2, d3] => { results := [.lit (.bool false)], args := [d1, d2, d3] }
  | _ => none }
def FrameOnceWrongFalsely : Prop := frameOnceRow.holds Try.pinned (OpenSpec.ofChange frameOnceWrong)

/- THE SECOND FORM. 'bulk': how many values and letters a reading holds, each counted each time it is reached (what is shared counts as often as it is met; a slice's spare places count too). A statement '..UptoSaid' is the law's where the arguments, and the package variables that the reading takes, are together of bulk at most 1048576: NARROWER than '..Said'. Prove '..Said' where nothing that the law and all that it calls make is longer than what came in: it says more and counts as full. Else prove '..UptoSaid'. A law counts once. -/
mutual
def uptoBulk {H : Type} : DataW H → Nat
  | .lit (.string bytes) => bytes.length + 1
  | .lit _ => 1
  | .nil => 1
  | .ptr d => uptoBulk d + 1
  | .slice elems spare => uptoBulkAll elems + uptoBulkAll spare + 1
  | .agg parts => uptoBulkAll parts + 1
  | .iface _ d => uptoBulk d + 1
  | .map entries => uptoBulkEntries entries + 1
  | .held _ => 1
def uptoBulkAll {H : Type} : List (DataW H) → Nat
  | [] => 0
  | d :: r => uptoBulk d + uptoBulkAll r
def uptoBulkEntries {H : Type} : List (Lit × DataW H) → Nat
  | [] => 0
  | x :: r => uptoBulkEntry x + uptoBulkEntries r
def uptoBulkEntry {H : Type} : Lit × DataW H → Nat
  | (.string bytes, d) => bytes.length + uptoBulk d + 1
  | (_, d) => uptoBulk d + 1
 end
def uptoSmall : (H : Type) → List (DataW H) → Bool := fun _ ds => decide (uptoBulkAll ds ≤ 1048576)
def OpenSpec.upto (s : _root_.Go.ChangeSpec) : _root_.Go.OpenSpec := { _root_.Go.OpenSpec.ofChange s with cond := some uptoSmall }

/-- 'peeragelaw04.HeaderForms', WHERE WHAT IT READS IS OF BULK AT MOST 1048576: true; the input reads as it did. -/
def headerFormsUptoRow : OpenClaim := { program := "ytdiiolbkjmhmdaa", sum := "a62608618fc1189f48a74c6ef95807f86cc8ec45c23b1168210639ecfdda6a1d", func := "peerage/peeragelaw04.HeaderForms", spec := "headerForms", apart := false, narrowed := true }
def HeaderFormsUptoSaid : Prop := headerFormsUptoRow.holds Try.pinned (OpenSpec.upto headerFormsSpec)

/-- 'peeragelaw04.HeaderParses', WHERE WHAT IT READS IS OF BULK AT MOST 1048576: true; the input reads as it did. -/
def headerParsesUptoRow : OpenClaim := { program := "ytdiiolbkjmhmdaa", sum := "a62608618fc1189f48a74c6ef95807f86cc8ec45c23b1168210639ecfdda6a1d", func := "peerage/peeragelaw04.HeaderParses", spec := "headerParses", unfollowed := true, recurses := true, apart := false, narrowed := true }
def HeaderParsesUptoSaid : Prop := headerParsesUptoRow.holds Try.pinned (OpenSpec.upto headerParsesSpec)

/-- 'peeragelaw04.HeaderMarkers', WHERE WHAT IT READS IS OF BULK AT MOST 1048576: true; the input reads as it did. -/
def headerMarkersUptoRow : OpenClaim := { program := "ytdiiolbkjmhmdaa", sum := "a62608618fc1189f48a74c6ef95807f86cc8ec45c23b1168210639ecfdda6a1d", func := "peerage/peeragelaw04.HeaderMarkers", spec := "headerMarkers", unfollowed := true, recurses := true, apart := false, narrowed := true }
def HeaderMarkersUptoSaid : Prop := headerMarkersUptoRow.holds Try.pinned (OpenSpec.upto headerMarkersSpec)

/-- 'peeragelaw04.HeaderLengths', WHERE WHAT IT READS IS OF BULK AT MOST 1048576: true; the input reads as it did. -/
def headerLengthsUptoRow : OpenClaim := { program := "ytdiiolbkjmhmdaa", sum := "a62608618fc1189f48a74c6ef95807f86cc8ec45c23b1168210639ecfdda6a1d", func := "peerage/peeragelaw04.HeaderLengths", spec := "headerLengths", unfollowed := true, recurses := true, apart := false, narrowed := true }
def HeaderLengthsUptoSaid : Prop := headerLengthsUptoRow.holds Try.pinned (OpenSpec.upto headerLengthsSpec)

/-- 'peeragelaw04.HeaderWraps', WHERE WHAT IT READS IS OF BULK AT MOST 1048576: true; the input reads as it did. -/
def headerWrapsUptoRow : OpenClaim := { program := "ytdiiolbkjmhmdaa", sum := "a62608618fc1189f48a74c6ef95807f86cc8ec45c23b1168210639ecfdda6a1d", func := "peerage/peeragelaw04.HeaderWraps", spec := "headerWraps", unfollowed := true, recurses := true, apart := false, narrowed := true }
def HeaderWrapsUptoSaid : Prop := headerWrapsUptoRow.holds Try.pinned (OpenSpec.upto headerWrapsSpec)

/-- 'peeragelaw23.FrameBounds', WHERE WHAT IT READS IS OF BULK AT MOST 1048576: true; the input reads as it did. -/
def frameBoundsUptoRow : OpenClaim := { program := "ytdiiolbkjmhmdaa", sum := "a62608618fc1189f48a74c6ef95807f86cc8ec45c23b1168210639ecfdda6a1d", func := "peerage/peeragelaw23.FrameBounds", spec := "frameBounds", inPlace := ["sync/atomic.LoadUint32", "sync/atomic.StoreUint32", "(*internal/sync.Mutex).Lock", "internal/race.Disable", "sync/atomic.CompareAndSwapInt32", "internal/race.Enable", "internal/race.Acquire", "(*internal/sync.Mutex).lockSlow", "internal/sync.runtime_canSpin", "internal/sync.runtime_doSpin", "internal/sync.throw", "internal/sync.runtime_nanotime", "internal/sync.runtime_SemacquireMutex", "sync/atomic.AddInt32", "(*internal/sync.Mutex).Unlock", "internal/race.ReleaseMerge", "(*internal/sync.Mutex).unlockSlow", "internal/sync.fatal", "internal/sync.runtime_Semrelease", "sync/atomic.AddInt64", "sync/atomic.LoadInt64"], unfollowed := true, recurses := true, apart := false, narrowed := true }
def FrameBoundsUptoSaid : Prop := frameBoundsUptoRow.holds Try.pinned (OpenSpec.upto frameBoundsSpec)

/-- 'peeragelaw23.FrameCuts', WHERE WHAT IT READS IS OF BULK AT MOST 1048576: true; the input reads as it did. -/
def frameCutsUptoRow : OpenClaim := { program := "ytdiiolbkjmhmdaa", sum := "a62608618fc1189f48a74c6ef95807f86cc8ec45c23b1168210639ecfdda6a1d", func := "peerage/peeragelaw23.FrameCuts", spec := "frameCuts", inPlace := ["sync/atomic.LoadUint32", "sync/atomic.StoreUint32", "(*internal/sync.Mutex).Lock", "internal/race.Disable", "sync/atomic.CompareAndSwapInt32", "internal/race.Enable", "internal/race.Acquire", "(*internal/sync.Mutex).lockSlow", "internal/sync.runtime_canSpin", "internal/sync.runtime_doSpin", "internal/sync.throw", "internal/sync.runtime_nanotime", "internal/sync.runtime_SemacquireMutex", "sync/atomic.AddInt32", "(*internal/sync.Mutex).Unlock", "internal/race.ReleaseMerge", "(*internal/sync.Mutex).unlockSlow", "internal/sync.fatal", "internal/sync.runtime_Semrelease", "sync/atomic.AddInt64", "sync/atomic.LoadInt64"], unfollowed := true, recurses := true, apart := false, narrowed := true }
def FrameCutsUptoSaid : Prop := frameCutsUptoRow.holds Try.pinned (OpenSpec.upto frameCutsSpec)

/-- 'peeragelaw23.FrameMatches', WHERE WHAT IT READS IS OF BULK AT MOST 1048576: true; the input reads as it did. -/
def frameMatchesUptoRow : OpenClaim := { program := "ytdiiolbkjmhmdaa", sum := "a62608618fc1189f48a74c6ef95807f86cc8ec45c23b1168210639ecfdda6a1d", func := "peerage/peeragelaw23.FrameMatches", spec := "frameMatches", inPlace := ["sync/atomic.LoadUint32", "sync/atomic.StoreUint32", "(*internal/sync.Mutex).Lock", "internal/race.Disable", "sync/atomic.CompareAndSwapInt32", "internal/race.Enable", "internal/race.Acquire", "(*internal/sync.Mutex).lockSlow", "internal/sync.runtime_canSpin", "internal/sync.runtime_doSpin", "internal/sync.throw", "internal/sync.runtime_nanotime", "internal/sync.runtime_SemacquireMutex", "sync/atomic.AddInt32", "(*internal/sync.Mutex).Unlock", "internal/race.ReleaseMerge", "(*internal/sync.Mutex).unlockSlow", "internal/sync.fatal", "internal/sync.runtime_Semrelease", "sync/atomic.AddInt64", "sync/atomic.LoadInt64"], unfollowed := true, recurses := true, apart := false, narrowed := true }
def FrameMatchesUptoSaid : Prop := frameMatchesUptoRow.holds Try.pinned (OpenSpec.upto frameMatchesSpec)

/-- 'peeragelaw23.FrameNil', WHERE WHAT IT READS IS OF BULK AT MOST 1048576: true; the input reads as it did. -/
def frameNilUptoRow : OpenClaim := { program := "ytdiiolbkjmhmdaa", sum := "a62608618fc1189f48a74c6ef95807f86cc8ec45c23b1168210639ecfdda6a1d", func := "peerage/peeragelaw23.FrameNil", spec := "frameNil", inPlace := ["sync/atomic.LoadUint32", "sync/atomic.StoreUint32", "(*internal/sync.Mutex).Lock", "internal/race.Disable", "sync/atomic.CompareAndSwapInt32", "internal/race.Enable", "internal/race.Acquire", "(*internal/sync.Mutex).lockSlow", "internal/sync.runtime_canSpin", "internal/sync.runtime_doSpin", "internal/sync.throw", "internal/sync.runtime_nanotime", "internal/sync.runtime_SemacquireMutex", "sync/atomic.AddInt32", "(*internal/sync.Mutex).Unlock", "internal/race.ReleaseMerge", "(*internal/sync.Mutex).unlockSlow", "internal/sync.fatal", "internal/sync.runtime_Semrelease", "sync/atomic.AddInt64", "sync/atomic.LoadInt64"], unfollowed := true, recurses := true, apart := false, narrowed := true }
def FrameNilUptoSaid : Prop := frameNilUptoRow.holds Try.pinned (OpenSpec.upto frameNilSpec)

/-- 'peeragelaw23.FrameOnce', WHERE WHAT IT READS IS OF BULK AT MOST 1048576: true; the input reads as it did. -/
def frameOnceUptoRow : OpenClaim := { program := "ytdiiolbkjmhmdaa", sum := "a62608618fc1189f48a74c6ef95807f86cc8ec45c23b1168210639ecfdda6a1d", func := "peerage/peeragelaw23.FrameOnce", spec := "frameOnce", inPlace := ["sync/atomic.LoadUint32", "sync/atomic.StoreUint32", "(*internal/sync.Mutex).Lock", "internal/race.Disable", "sync/atomic.CompareAndSwapInt32", "internal/race.Enable", "internal/race.Acquire", "(*internal/sync.Mutex).lockSlow", "internal/sync.runtime_canSpin", "internal/sync.runtime_doSpin", "internal/sync.throw", "internal/sync.runtime_nanotime", "internal/sync.runtime_SemacquireMutex", "sync/atomic.AddInt32", "(*internal/sync.Mutex).Unlock", "internal/race.ReleaseMerge", "(*internal/sync.Mutex).unlockSlow", "internal/sync.fatal", "internal/sync.runtime_Semrelease", "sync/atomic.AddInt64", "sync/atomic.LoadInt64"], unfollowed := true, recurses := true, apart := false, narrowed := true }
def FrameOnceUptoSaid : Prop := frameOnceUptoRow.holds Try.pinned (OpenSpec.upto frameOnceSpec)

end Rows
end Go.Proofs.Ytdiiolbkjmhmdaa
