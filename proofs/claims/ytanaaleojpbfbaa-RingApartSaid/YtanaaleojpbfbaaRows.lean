/-
  No cell of these rows narrows 'for every input' (looked for: loops, veiled, ifaces, maps, wideKeys, modest, calm, conditions, laid).
  DERIVED. THE GIVEN ROWS OF THIS SEAT. 11 by the template 'for every input the law returns true; each argument reads behind the call as it read before'; 0 by the template 'total and deterministic' (their statements: YtanaaleojpbfbaaTotals.lean).
  GIVEN WITH THE SEED: the statements are not yours to turn. If you find one false, say at which input.
  Laid BY PROGRAM, IN A SANDBOX (cutbox-rows.mjs): the forced cells as the released guide's own fill.sh prints them over the translation c65dad616aba6a20… (all of the seat's roots in one cut). By AI agents, Wed Nov 11 2026. No macro, syntax, notation, axiom, sorry.
-/
import Derived.Test.YtanaaleojpbfbaaChecked
import GoSem.Claim
import GoSem.ClaimJoined
import GoSem.ClaimMapViews
import Derived.JoinedTies
import Derived.KernelRfl
namespace Go.Proofs.Ytanaaleojpbfbaa
/- THE CELL 'sum', in the pinned program and in every row, IS THE sha256 OF THE DUMP (.gsa) THAT YtanaaleojpbfbaaProg.lean LOADS. Nothing in Lean hashes anything: it is a label: what it is worth is what the hold of that sum in a sandbox is worth. -/
noncomputable def Try.pinned : Pinned := { name := "ytanaaleojpbfbaa", sum := "c65dad616aba6a20228ef443160bfd9f028191261566858262d8c1498440ad9e", checked := Try.checked }
namespace Rows
def none {H : Type} : Left H := { results := [], args := [] }

/-- 'trunnionlaw13.RingNeeds': WHATEVER THE INPUT: true; the input reads as it did. -/
def ringNeedsSpec : ChangeSpec := { name := "ringNeeds", fn := fun _ => fun
  | [d] => { results := [.lit (.bool true)], args := [d] }
  | _ => none }
def ringNeedsRow : OpenClaim := { program := "ytanaaleojpbfbaa", sum := "c65dad616aba6a20228ef443160bfd9f028191261566858262d8c1498440ad9e", func := "trunnion/trunnionlaw13.RingNeeds", spec := "ringNeeds", inPlace := ["sync/atomic.LoadUint32", "(*internal/sync.Mutex).Lock", "internal/race.Disable", "sync/atomic.CompareAndSwapInt32", "internal/race.Enable", "internal/race.Acquire", "(*internal/sync.Mutex).lockSlow", "internal/sync.runtime_canSpin", "internal/sync.runtime_doSpin", "internal/sync.throw", "internal/sync.runtime_nanotime", "internal/sync.runtime_SemacquireMutex", "sync/atomic.AddInt32", "(*internal/sync.Mutex).Unlock", "internal/race.ReleaseMerge", "(*internal/sync.Mutex).unlockSlow", "internal/sync.fatal", "internal/sync.runtime_Semrelease", "sync/atomic.StoreUint32"], unfollowed := true, recurses := true, apart := false }
def RingNeedsSaid : Prop := ringNeedsRow.holds Try.pinned (OpenSpec.ofChange ringNeedsSpec)

/-- ITS FALSE NEIGHBOUR: 'it returns false'. Refute it at one input. -/
def ringNeedsWrong : ChangeSpec := { name := "ringNeeds", fn := fun _ => fun
  | [d] => { results := [.lit (.bool false)], args := [d] }
  | _ => none }
def RingNeedsWrongFalsely : Prop := ringNeedsRow.holds Try.pinned (OpenSpec.ofChange ringNeedsWrong)

/-- 'trunnionlaw02.GfMuls': WHATEVER THE INPUT: true; the input reads as it did. -/
def gfMulsSpec : ChangeSpec := { name := "gfMuls", fn := fun _ => fun
  | [d1, d2] => { results := [.lit (.bool true)], args := [d1, d2] }
  | _ => none }
def gfMulsRow : OpenClaim := { program := "ytanaaleojpbfbaa", sum := "c65dad616aba6a20228ef443160bfd9f028191261566858262d8c1498440ad9e", func := "trunnion/trunnionlaw02.GfMuls", spec := "gfMuls", inPlace := ["sync/atomic.LoadInt64", "sync/atomic.AddInt64", "sync/atomic.LoadUint32", "(*internal/sync.Mutex).Lock", "internal/race.Disable", "sync/atomic.CompareAndSwapInt32", "internal/race.Enable", "internal/race.Acquire", "(*internal/sync.Mutex).lockSlow", "internal/sync.runtime_canSpin", "internal/sync.runtime_doSpin", "internal/sync.throw", "internal/sync.runtime_nanotime", "internal/sync.runtime_SemacquireMutex", "sync/atomic.AddInt32", "(*internal/sync.Mutex).Unlock", "internal/race.ReleaseMerge", "(*internal/sync.Mutex).unlockSlow", "internal/sync.fatal", "internal/sync.runtime_Semrelease", "sync/atomic.StoreUint32"], unfollowed := true, recurses := true, apart := false }
def GfMulsSaid : Prop := gfMulsRow.holds Try.pinned (OpenSpec.ofChange gfMulsSpec)

/-- ITS FALSE NEIGHBOUR: 'it returns false'. Refute it at one input. -/
def gfMulsWrong : ChangeSpec := { name := "gfMuls", fn := fun _ => fun
  | [d1, d2] => { results := [.lit (.bool false)], args := [d1, d2] }
  | _ => none }
def GfMulsWrongFalsely : Prop := gfMulsRow.holds Try.pinned (OpenSpec.ofChange gfMulsWrong)

/-- 'trunnionlaw13.RingPlaces': WHATEVER THE INPUT: true; the input reads as it did. -/
def ringPlacesSpec : ChangeSpec := { name := "ringPlaces", fn := fun _ => fun
  | [d1, d2] => { results := [.lit (.bool true)], args := [d1, d2] }
  | _ => none }
def ringPlacesRow : OpenClaim := { program := "ytanaaleojpbfbaa", sum := "c65dad616aba6a20228ef443160bfd9f028191261566858262d8c1498440ad9e", func := "trunnion/trunnionlaw13.RingPlaces", spec := "ringPlaces", inPlace := ["sync/atomic.LoadUint32", "(*internal/sync.Mutex).Lock", "internal/race.Disable", "sync/atomic.CompareAndSwapInt32", "internal/race.Enable", "internal/race.Acquire", "(*internal/sync.Mutex).lockSlow", "internal/sync.runtime_canSpin", "internal/sync.runtime_doSpin", "internal/sync.throw", "internal/sync.runtime_nanotime", "internal/sync.runtime_SemacquireMutex", "sync/atomic.AddInt32", "(*internal/sync.Mutex).Unlock", "internal/race.ReleaseMerge", "(*internal/sync.Mutex).unlockSlow", "internal/sync.fatal", "internal/sync.runtime_Semrelease", "sync/atomic.StoreUint32"], unfollowed := true, recurses := true, apart := false }
def RingPlacesSaid : Prop := ringPlacesRow.holds Try.pinned (OpenSpec.ofChange ringPlacesSpec)

/-- ITS FALSE NEIGHBOUR: 'it returns false'. Refute it at one input. -/
def ringPlacesWrong : ChangeSpec := { name := "ringPlaces", fn := fun _ => fun
  | [d1, d2] => { results := [.lit (.bool false)], args := [d1, d2] }
  | _ => none }
def RingPlacesWrongFalsely : Prop := ringPlacesRow.holds Try.pinned (OpenSpec.ofChange ringPlacesWrong)

/-- 'trunnionlaw13.RingApart': WHATEVER THE INPUT: true; the input reads as it did. -/
def ringApartSpec : ChangeSpec := { name := "ringApart", fn := fun _ => fun
  | [d1, d2, d3] => { results := [.lit (.bool true)], args := [d1, d2, d3] }
  | _ => none }
def ringApartRow : OpenClaim := { program := "ytanaaleojpbfbaa", sum := "c65dad616aba6a20228ef443160bfd9f028191261566858262d8c1498440ad9e", func := "trunnion/trunnionlaw13.RingApart", spec := "ringApart", inPlace := ["sync/atomic.LoadUint32", "(*internal/sync.Mutex).Lock", "internal/race.Disable", "sync/atomic.CompareAndSwapInt32", "internal/race.Enable", "internal/race.Acquire", "(*internal/sync.Mutex).lockSlow", "internal/sync.runtime_canSpin", "internal/sync.runtime_doSpin", "internal/sync.throw", "internal/sync.runtime_nanotime", "internal/sync.runtime_SemacquireMutex", "sync/atomic.AddInt32", "(*internal/sync.Mutex).Unlock", "internal/race.ReleaseMerge", "(*internal/sync.Mutex).unlockSlow", "internal/sync.fatal", "internal/sync.runtime_Semrelease", "sync/atomic.StoreUint32"], unfollowed := true, recurses := true, apart := false }
def RingApartSaid : Prop := ringApartRow.holds Try.pinned (OpenSpec.ofChange ringApartSpec)

/-- ITS FALSE NEIGHBOUR: 'it returns false'. Refute it at one input. -/
def ringApartWrong : ChangeSpec := { name := "ringApart", fn := fun _ => fun
  | [d1, d2, d3] => { results := [.lit (.bool false)], args := [d1, d2, d3] }
  | _ => none }
def RingApartWrongFalsely : Prop := ringApartRow.holds Try.pinned (OpenSpec.ofChange ringApartWrong)

/-- 'trunnionlaw13.RingPacks': WHATEVER THE INPUT: true; the input reads as it did. -/
def ringPacksSpec : ChangeSpec := { name := "ringPacks", fn := fun _ => fun
  | [d1, d2] => { results := [.lit (.bool true)], args := [d1, d2] }
  | _ => none }
def ringPacksRow : OpenClaim := { program := "ytanaaleojpbfbaa", sum := "c65dad616aba6a20228ef443160bfd9f028191261566858262d8c1498440ad9e", func := "trunnion/trunnionlaw13.RingPacks", spec := "ringPacks", inPlace := ["sync/atomic.LoadUint32", "(*internal/sync.Mutex).Lock", "internal/race.Disable", "sync/atomic.CompareAndSwapInt32", "internal/race.Enable", "internal/race.Acquire", "(*internal/sync.Mutex).lockSlow", "internal/sync.runtime_canSpin", "internal/sync.runtime_doSpin", "internal/sync.throw", "internal/sync.runtime_nanotime", "internal/sync.runtime_SemacquireMutex", "sync/atomic.AddInt32", "(*internal/sync.Mutex).Unlock", "internal/race.ReleaseMerge", "(*internal/sync.Mutex).unlockSlow", "internal/sync.fatal", "internal/sync.runtime_Semrelease", "sync/atomic.StoreUint32"], unfollowed := true, recurses := true, apart := false }
def RingPacksSaid : Prop := ringPacksRow.holds Try.pinned (OpenSpec.ofChange ringPacksSpec)

/-- ITS FALSE NEIGHBOUR: 'it returns false'. Refute it at one input. -/
def ringPacksWrong : ChangeSpec := { name := "ringPacks", fn := fun _ => fun
  | [d1, d2] => { results := [.lit (.bool false)], args := [d1, d2] }
  | _ => none }
def RingPacksWrongFalsely : Prop := ringPacksRow.holds Try.pinned (OpenSpec.ofChange ringPacksWrong)

/-- 'trunnionlaw13.RingFits': WHATEVER THE INPUT: true; the input reads as it did. -/
def ringFitsSpec : ChangeSpec := { name := "ringFits", fn := fun _ => fun
  | [d1, d2] => { results := [.lit (.bool true)], args := [d1, d2] }
  | _ => none }
def ringFitsRow : OpenClaim := { program := "ytanaaleojpbfbaa", sum := "c65dad616aba6a20228ef443160bfd9f028191261566858262d8c1498440ad9e", func := "trunnion/trunnionlaw13.RingFits", spec := "ringFits", inPlace := ["sync/atomic.LoadUint32", "(*internal/sync.Mutex).Lock", "internal/race.Disable", "sync/atomic.CompareAndSwapInt32", "internal/race.Enable", "internal/race.Acquire", "(*internal/sync.Mutex).lockSlow", "internal/sync.runtime_canSpin", "internal/sync.runtime_doSpin", "internal/sync.throw", "internal/sync.runtime_nanotime", "internal/sync.runtime_SemacquireMutex", "sync/atomic.AddInt32", "(*internal/sync.Mutex).Unlock", "internal/race.ReleaseMerge", "(*internal/sync.Mutex).unlockSlow", "internal/sync.fatal", "internal/sync.runtime_Semrelease", "sync/atomic.StoreUint32"], unfollowed := true, recurses := true, apart := false }
def RingFitsSaid : Prop := ringFitsRow.holds Try.pinned (OpenSpec.ofChange ringFitsSpec)

/-- ITS FALSE NEIGHBOUR: 'it returns false'. Refute it at one input. -/
def ringFitsWrong : ChangeSpec := { name := "ringFits", fn := fun _ => fun
  | [d1, d2] => { results := [.lit (.bool false)], args := [d1, d2] }
  | _ => none }
def RingFitsWrongFalsely : Prop := ringFitsRow.holds Try.pinned (OpenSpec.ofChange ringFitsWrong)

/-- 'trunnionlaw02.GfField': WHATEVER THE INPUT: true; the input reads as it did. -/
def gfFieldSpec : ChangeSpec := { name := "gfField", fn := fun _ => fun
  | [d1, d2, d3] => { results := [.lit (.bool true)], args := [d1, d2, d3] }
  | _ => none }
def gfFieldRow : OpenClaim := { program := "ytanaaleojpbfbaa", sum := "c65dad616aba6a20228ef443160bfd9f028191261566858262d8c1498440ad9e", func := "trunnion/trunnionlaw02.GfField", spec := "gfField", inPlace := ["sync/atomic.LoadInt64", "sync/atomic.AddInt64", "sync/atomic.LoadUint32", "(*internal/sync.Mutex).Lock", "internal/race.Disable", "sync/atomic.CompareAndSwapInt32", "internal/race.Enable", "internal/race.Acquire", "(*internal/sync.Mutex).lockSlow", "internal/sync.runtime_canSpin", "internal/sync.runtime_doSpin", "internal/sync.throw", "internal/sync.runtime_nanotime", "internal/sync.runtime_SemacquireMutex", "sync/atomic.AddInt32", "(*internal/sync.Mutex).Unlock", "internal/race.ReleaseMerge", "(*internal/sync.Mutex).unlockSlow", "internal/sync.fatal", "internal/sync.runtime_Semrelease", "sync/atomic.StoreUint32"], unfollowed := true, recurses := true, apart := false }
def GfFieldSaid : Prop := gfFieldRow.holds Try.pinned (OpenSpec.ofChange gfFieldSpec)

/-- ITS FALSE NEIGHBOUR: 'it returns false'. Refute it at one input. -/
def gfFieldWrong : ChangeSpec := { name := "gfField", fn := fun _ => fun
  | [d1, d2, d3] => { results := [.lit (.bool false)], args := [d1, d2, d3] }
  | _ => none }
def GfFieldWrongFalsely : Prop := gfFieldRow.holds Try.pinned (OpenSpec.ofChange gfFieldWrong)

/-- 'trunnionlaw02.GfPowers': WHATEVER THE INPUT: true; the input reads as it did. -/
def gfPowersSpec : ChangeSpec := { name := "gfPowers", fn := fun _ => fun
  | [d1, d2, d3] => { results := [.lit (.bool true)], args := [d1, d2, d3] }
  | _ => none }
def gfPowersRow : OpenClaim := { program := "ytanaaleojpbfbaa", sum := "c65dad616aba6a20228ef443160bfd9f028191261566858262d8c1498440ad9e", func := "trunnion/trunnionlaw02.GfPowers", spec := "gfPowers", inPlace := ["sync/atomic.LoadInt64", "sync/atomic.AddInt64", "sync/atomic.LoadUint32", "(*internal/sync.Mutex).Lock", "internal/race.Disable", "sync/atomic.CompareAndSwapInt32", "internal/race.Enable", "internal/race.Acquire", "(*internal/sync.Mutex).lockSlow", "internal/sync.runtime_canSpin", "internal/sync.runtime_doSpin", "internal/sync.throw", "internal/sync.runtime_nanotime", "internal/sync.runtime_SemacquireMutex", "sync/atomic.AddInt32", "(*internal/sync.Mutex).Unlock", "internal/race.ReleaseMerge", "(*internal/sync.Mutex).unlockSlow", "internal/sync.fatal", "internal/sync.runtime_Semrelease", "sync/atomic.StoreUint32"], unfollowed := true, recurses := true, apart := false }
def GfPowersSaid : Prop := gfPowersRow.holds Try.pinned (OpenSpec.ofChange gfPowersSpec)

/-- ITS FALSE NEIGHBOUR: 'it returns false'. Refute it at one input. -/
def gfPowersWrong : ChangeSpec := { name := "gfPowers", fn := fun _ => fun
  | [d1, d2, d3] => { results := [.lit (.bool false)], args := [d1, d2, d3] }
  | _ => none }
def GfPowersWrongFalsely : Prop := gfPowersRow.holds Try.pinned (OpenSpec.ofChange gfPowersWrong)

/-- 'trunnionlaw02.GfDivs': WHATEVER THE INPUT: true; the input reads as it did. -/
def gfDivsSpec : ChangeSpec := { name := "gfDivs", fn := fun _ => fun
  | [d1, d2, d3] => { results := [.lit (.bool true)], args := [d1, d2, d3] }
  | _ => none }
def gfDivsRow : OpenClaim := { program := "ytanaaleojpbfbaa", sum := "c65dad616aba6a20228ef443160bfd9f028191261566858262d8c1498440ad9e", func := "trunnion/trunnionlaw02.GfDivs", spec := "gfDivs", inPlace := ["sync/atomic.LoadInt64", "sync/atomic.AddInt64", "sync/atomic.LoadUint32", "(*internal/sync.Mutex).Lock", "internal/race.Disable", "sync/atomic.CompareAndSwapInt32", "internal/race.Enable", "internal/race.Acquire", "(*internal/sync.Mutex).lockSlow", "internal/sync.runtime_canSpin", "internal/sync.runtime_doSpin", "internal/sync.throw", "internal/sync.runtime_nanotime", "internal/sync.runtime_SemacquireMutex", "sync/atomic.AddInt32", "(*internal/sync.Mutex).Unlock", "internal/race.ReleaseMerge", "(*internal/sync.Mutex).unlockSlow", "internal/sync.fatal", "internal/sync.runtime_Semrelease", "sync/atomic.StoreUint32"], unfollowed := true, recurses := true, apart := false }
def GfDivsSaid : Prop := gfDivsRow.holds Try.pinned (OpenSpec.ofChange gfDivsSpec)

/-- ITS FALSE NEIGHBOUR: 'it returns false'. Refute it at one input. -/
def gfDivsWrong : ChangeSpec := { name := "gfDivs", fn := fun _ => fun
  | [d1, d2, d3] => { results := [.lit (.bool false)], args := [d1, d2, d3] }
  | _ => none }
def GfDivsWrongFalsely : Prop := gfDivsRow.holds Try.pinned (OpenSpec.ofChange gfDivsWrong)

/-- 'trunnionlaw02.GfOnce': WHATEVER THE INPUT: true; the input reads as it did. -/
def gfOnceSpec : ChangeSpec := { name := "gfOnce", fn := fun _ => fun
  | [d1, d2, d3] => { results := [.lit (.bool true)], args := [d1, d2, d3] }
  | _ => none }
def gfOnceRow : OpenClaim := { program := "ytanaaleojpbfbaa", sum := "c65dad616aba6a20228ef443160bfd9f028191261566858262d8c1498440ad9e", func := "trunnion/trunnionlaw02.GfOnce", spec := "gfOnce", inPlace := ["sync/atomic.LoadInt64", "sync/atomic.AddInt64", "sync/atomic.LoadUint32", "(*internal/sync.Mutex).Lock", "internal/race.Disable", "sync/atomic.CompareAndSwapInt32", "internal/race.Enable", "internal/race.Acquire", "(*internal/sync.Mutex).lockSlow", "internal/sync.runtime_canSpin", "internal/sync.runtime_doSpin", "internal/sync.throw", "internal/sync.runtime_nanotime", "internal/sync.runtime_SemacquireMutex", "sync/atomic.AddInt32", "(*internal/sync.Mutex).Unlock", "internal/race.ReleaseMerge", "(*internal/sync.Mutex).unlockSlow", "internal/sync.fatal", "internal/sync.runtime_Semrelease", "sync/atomic.StoreUint32"], unfollowed := true, recurses := true, apart := false }
def GfOnceSaid : Prop := gfOnceRow.holds Try.pinned (OpenSpec.ofChange gfOnceSpec)

/-- ITS FALSE NEIGHBOUR: 'it returns false'. Refute it at one input. -/
def gfOnceWrong : ChangeSpec := { name := "gfOnce", fn := fun _ => fun
  | [d1, d2, d3] => { results := [.lit (.bool false)], args := [d1, d2, d3] }
  | _ => none }
def GfOnceWrongFalsely : Prop := gfOnceRow.holds Try.pinned (OpenSpec.ofChange gfOnceWrong)

/-- 'trunnionlaw02.GfNil': WHATEVER THE INPUT: true; the input reads as it did. -/
def gfNilSpec : ChangeSpec := { name := "gfNil", fn := fun _ => fun
  | [d1, d2, d3] => { results := [.lit (.bool true)], args := [d1, d2, d3] }
  | _ => none }
def gfNilRow : OpenClaim := { program := "ytanaaleojpbfbaa", sum := "c65dad616aba6a20228ef443160bfd9f028191261566858262d8c1498440ad9e", func := "trunnion/trunnionlaw02.GfNil", spec := "gfNil", inPlace := ["sync/atomic.LoadInt64", "sync/atomic.AddInt64", "sync/atomic.LoadUint32", "(*internal/sync.Mutex).Lock", "internal/race.Disable", "sync/atomic.CompareAndSwapInt32", "internal/race.Enable", "internal/race.Acquire", "(*internal/sync.Mutex).lockSlow", "internal/sync.runtime_canSpin", "internal/sync.runtime_doSpin", "internal/sync.throw", "internal/sync.runtime_nanotime", "internal/sync.runtime_SemacquireMutex", "sync/atomic.AddInt32", "(*internal/sync.Mutex).Unlock", "internal/race.ReleaseMerge", "(*internal/sync.Mutex).unlockSlow", "internal/sync.fatal", "internal/sync.runtime_Semrelease", "sync/atomic.StoreUint32"], unfollowed := true, recurses := true, apart := false }
def GfNilSaid : Prop := gfNilRow.holds Try.pinned (OpenSpec.ofChange gfNilSpec)

/-- ITS FALSE NEIGHBOUR: 'it returns false'. Refute it at one input. -/
def gfNilWrong : ChangeSpec := { name := "gfNil", fn := fun _ => fun
  | [d1, d2, d3] => { results := [.lit (.bool false)], args := [d1, d2, d3] }
  | _ => none }
def GfNilWrongFalsely : Prop := gfNilRow.holds Try.pinned (OpenSpec.ofChange gfNilWrong)

/- THE SECOND FORM. 'bulk': how many values and letters a reading holds, each counted each time it is reached (what is shared counts as often as it is met; a slice's spare places count too). A statement '..UptoSaid' is the law's where the arguments, and the package variables that the reading takes, are together of bulk at most 1048576: NARROWER than '..Said'. Prove '..Said' where nothing that the law and all that it calls make is longer than what came in: it says more and counts as full. Else prove '..UptoSaid'. A law counts once. -/
mutual
def uptoBulk {H : Type} : DataW H → Nat
  | .lit (.string bytes) => bytes.length + 1
  | .lit _ => 1
  | .nil => 1
  | .ptr d => uptoBulk d + 1
  | .slice elems spare => uptoBulkAll elems + uptoBulkAll spare + 1
  | .agg parts => uptoBulkAll parts + 1
  | .iface _ d => uptoBulk d + 1
  | .map entries => uptoBulkEntries entries + 1
  | .held _ => 1
def uptoBulkAll {H : Type} : List (DataW H) → Nat
  | [] => 0
  | d :: r => uptoBulk d + uptoBulkAll r
def uptoBulkEntries {H : Type} : List (Lit × DataW H) → Nat
  | [] => 0
  | x :: r => uptoBulkEntry x + uptoBulkEntries r
def uptoBulkEntry {H : Type} : Lit × DataW H → Nat
  | (.string bytes, d) => bytes.length + uptoBulk d + 1
  | (_, d) => uptoBulk d + 1
 end
def uptoSmall : (H : Type) → List (DataW H) → Bool := fun _ ds => decide (uptoBulkAll ds ≤ 1048576)
def OpenSpec.upto (s : _root_.Go.ChangeSpec) : _root_.Go.OpenSpec := { _root_.Go.OpenSpec.ofChange s with cond := some uptoSmall }

/-- 'trunnionlaw13.RingNeeds', WHERE WHAT IT READS IS OF BULK AT MOST 1048576: true; the input reads as it did. -/
def ringNeedsUptoRow : OpenClaim := { program := "ytanaaleojpbfbaa", sum := "c65dad616aba6a20228ef443160bfd9f028191261566858262d8c1498440ad9e", func := "trunnion/trunnionlaw13.RingNeeds", spec := "ringNeeds", inPlace := ["sync/atomic.LoadUint32", "(*internal/sync.Mutex).Lock", "internal/race.Disable", "sync/atomic.CompareAndSwapInt32", "internal/race.Enable", "internal/race.Acquire", "(*internal/sync.Mutex).lockSlow", "internal/sync.runtime_canSpin", "internal/sync.runtime_doSpin", "internal/sync.throw", "internal/sync.runtime_nanotime", "internal/sync.runtime_SemacquireMutex", "sync/atomic.AddInt32", "(*internal/sync.Mutex).Unlock", "internal/race.ReleaseMerge", "(*internal/sync.Mutex).unlockSlow", "internal/sync.fatal", "internal/sync.runtime_Semrelease", "sync/atomic.StoreUint32"], unfollowed := true, recurses := true, apart := false, narrowed := true }
def RingNeedsUptoSaid : Prop := ringNeedsUptoRow.holds Try.pinned (OpenSpec.upto ringNeedsSpec)

/-- 'trunnionlaw02.GfMuls', WHERE WHAT IT READS IS OF BULK AT MOST 1048576: true; the input reads as it did. -/
def gfMulsUptoRow : OpenClaim := { program := "ytanaaleojpbfbaa", sum := "c65dad616aba6a20228ef443160bfd9f028191261566858262d8c1498440ad9e", func := "trunnion/trunnionlaw02.GfMuls", spec := "gfMuls", inPlace := ["sync/atomic.LoadInt64", "sync/atomic.AddInt64", "sync/atomic.LoadUint32", "(*internal/sync.Mutex).Lock", "internal/race.Disable", "sync/atomic.CompareAndSwapInt32", "internal/race.Enable", "internal/race.Acquire", "(*internal/sync.Mutex).lockSlow", "internal/sync.runtime_canSpin", "internal/sync.runtime_doSpin", "internal/sync.throw", "internal/sync.runtime_nanotime", "internal/sync.runtime_SemacquireMutex", "sync/atomic.AddInt32", "(*internal/sync.Mutex).Unlock", "internal/race.ReleaseMerge", "(*internal/sync.Mutex).unlockSlow", "internal/sync.fatal", "internal/sync.runtime_Semrelease", "sync/atomic.StoreUint32"], unfollowed := true, recurses := true, apart := false, narrowed := true }
def GfMulsUptoSaid : Prop := gfMulsUptoRow.holds Try.pinned (OpenSpec.upto gfMulsSpec)

/-- 'trunnionlaw13.RingPlaces', WHERE WHAT IT READS IS OF BULK AT MOST 1048576: true; the input reads as it did. -/
def ringPlacesUptoRow : OpenClaim := { program := "ytanaaleojpbfbaa", sum := "c65dad616aba6a20228ef443160bfd9f028191261566858262d8c1498440ad9e", func := "trunnion/trunnionlaw13.RingPlaces", spec := "ringPlaces", inPlace := ["sync/atomic.LoadUint32", "(*internal/sync.Mutex).Lock", "internal/race.Disable", "sync/atomic.CompareAndSwapInt32", "internal/race.Enable", "internal/race.Acquire", "(*internal/sync.Mutex).lockSlow", "internal/sync.runtime_canSpin", "internal/sync.runtime_doSpin", "internal/sync.throw", "internal/sync.runtime_nanotime", "internal/sync.runtime_SemacquireMutex", "sync/atomic.AddInt32", "(*internal/sync.Mutex).Unlock", "internal/race.ReleaseMerge", "(*internal/sync.Mutex).unlockSlow", "internal/sync.fatal", "internal/sync.runtime_Semrelease", "sync/atomic.StoreUint32"], unfollowed := true, recurses := true, apart := false, narrowed := true }
def RingPlacesUptoSaid : Prop := ringPlacesUptoRow.holds Try.pinned (OpenSpec.upto ringPlacesSpec)

/-- 'trunnionlaw13.RingApart', WHERE WHAT IT READS IS OF BULK AT MOST 1048576: true; the input reads as it did. -/
def ringApartUptoRow : OpenClaim := { program := "ytanaaleojpbfbaa", sum := "c65dad616aba6a20228ef443160bfd9f028191261566858262d8c1498440ad9e", func := "trunnion/trunnionlaw13.RingApart", spec := "ringApart", inPlace := ["sync/atomic.LoadUint32", "(*internal/sync.Mutex).Lock", "internal/race.Disable", "sync/atomic.CompareAndSwapInt32", "internal/race.Enable", "internal/race.Acquire", "(*internal/sync.Mutex).lockSlow", "internal/sync.runtime_canSpin", "internal/sync.runtime_doSpin", "internal/sync.throw", "internal/sync.runtime_nanotime", "internal/sync.runtime_SemacquireMutex", "sync/atomic.AddInt32", "(*internal/sync.Mutex).Unlock", "internal/race.ReleaseMerge", "(*internal/sync.Mutex).unlockSlow", "internal/sync.fatal", "internal/sync.runtime_Semrelease", "sync/atomic.StoreUint32"], unfollowed := true, recurses := true, apart := false, narrowed := true }
def RingApartUptoSaid : Prop := ringApartUptoRow.holds Try.pinned (OpenSpec.upto ringApartSpec)

/-- 'trunnionlaw13.RingPacks', WHERE WHAT IT READS IS OF BULK AT MOST 1048576: true; the input reads as it did. -/
def ringPacksUptoRow : OpenClaim := { program := "ytanaaleojpbfbaa", sum := "c65dad616aba6a20228ef443160bfd9f028191261566858262d8c1498440ad9e", func := "trunnion/trunnionlaw13.RingPacks", spec := "ringPacks", inPlace := ["sync/atomic.LoadUint32", "(*internal/sync.Mutex).Lock", "internal/race.Disable", "sync/atomic.CompareAndSwapInt32", "internal/race.Enable", "internal/race.Acquire", "(*internal/sync.Mutex).lockSlow", "internal/sync.runtime_canSpin", "internal/sync.runtime_doSpin", "internal/sync.throw", "internal/sync.runtime_nanotime", "internal/sync.runtime_SemacquireMutex", "sync/atomic.AddInt32", "(*internal/sync.Mutex).Unlock", "internal/race.ReleaseMerge", "(*internal/sync.Mutex).unlockSlow", "internal/sync.fatal", "internal/sync.runtime_Semrelease", "sync/atomic.StoreUint32"], unfollowed := true, recurses := true, apart := false, narrowed := true }
def RingPacksUptoSaid : Prop := ringPacksUptoRow.holds Try.pinned (OpenSpec.upto ringPacksSpec)

/-- 'trunnionlaw13.RingFits', WHERE WHAT IT READS IS OF BULK AT MOST 1048576: true; the input reads as it did. -/
def ringFitsUptoRow : OpenClaim := { program := "ytanaaleojpbfbaa", sum := "c65dad616aba6a20228ef443160bfd9f028191261566858262d8c1498440ad9e", func := "trunnion/trunnionlaw13.RingFits", spec := "ringFits", inPlace := ["sync/atomic.LoadUint32", "(*internal/sync.Mutex).Lock", "internal/race.Disable", "sync/atomic.CompareAndSwapInt32", "internal/race.Enable", "internal/race.Acquire", "(*internal/sync.Mutex).lockSlow", "internal/sync.runtime_canSpin", "internal/sync.runtime_doSpin", "internal/sync.throw", "internal/sync.runtime_nanotime", "internal/sync.runtime_SemacquireMutex", "sync/atomic.AddInt32", "(*internal/sync.Mutex).Unlock", "internal/race.ReleaseMerge", "(*internal/sync.Mutex).unlockSlow", "internal/sync.fatal", "internal/sync.runtime_Semrelease", "sync/atomic.StoreUint32"], unfollowed := true, recurses := true, apart := false, narrowed := true }
def RingFitsUptoSaid : Prop := ringFitsUptoRow.holds Try.pinned (OpenSpec.upto ringFitsSpec)

/-- 'trunnionlaw02.GfField', WHERE WHAT IT READS IS OF BULK AT MOST 1048576: true; the input reads as it did. -/
def gfFieldUptoRow : OpenClaim := { program := "ytanaaleojpbfbaa", sum := "c65dad616aba6a20228ef443160bfd9f028191261566858262d8c1498440ad9e", func := "trunnion/trunnionlaw02.GfField", spec := "gfField", inPlace := ["sync/atomic.LoadInt64", "sync/atomic.AddInt64", "sync/atomic.LoadUint32", "(*internal/sync.Mutex).Lock", "internal/race.Disable", "sync/atomic.CompareAndSwapInt32", "internal/race.Enable", "internal/race.Acquire", "(*internal/sync.Mutex).lockSlow", "internal/sync.runtime_canSpin", "internal/sync.runtime_doSpin", "internal/sync.throw", "internal/sync.runtime_nanotime", "internal/sync.runtime_SemacquireMutex", "sync/atomic.AddInt32", "(*internal/sync.Mutex).Unlock", "internal/race.ReleaseMerge", "(*internal/sync.Mutex).unlockSlow", "internal/sync.fatal", "internal/sync.runtime_Semrelease", "sync/atomic.StoreUint32"], unfollowed := true, recurses := true, apart := false, narrowed := true }
def GfFieldUptoSaid : Prop := gfFieldUptoRow.holds Try.pinned (OpenSpec.upto gfFieldSpec)

/-- 'trunnionlaw02.GfPowers', WHERE WHAT IT READS IS OF BULK AT MOST 1048576: true; the input reads as it did. -/
def gfPowersUptoRow : OpenClaim := { program := "ytanaaleojpbfbaa", sum := "c65dad616aba6a20228ef443160bfd9f028191261566858262d8c1498440ad9e", func := "trunnion/trunnionlaw02.GfPowers", spec := "gfPowers", inPlace := ["sync/atomic.LoadInt64", "sync/atomic.AddInt64", "sync/atomic.LoadUint32", "(*internal/sync.Mutex).Lock", "internal/race.Disable", "sync/atomic.CompareAndSwapInt32", "internal/race.Enable", "internal/race.Acquire", "(*internal/sync.Mutex).lockSlow", "internal/sync.runtime_canSpin", "internal/sync.runtime_doSpin", "internal/sync.throw", "internal/sync.runtime_nanotime", "internal/sync.runtime_SemacquireMutex", "sync/atomic.AddInt32", "(*internal/sync.Mutex).Unlock", "internal/race.ReleaseMerge", "(*internal/sync.Mutex).unlockSlow", "internal/sync.fatal", "internal/sync.runtime_Semrelease", "sync/atomic.StoreUint32"], unfollowed := true, recurses := true, apart := false, narrowed := true }
def GfPowersUptoSaid : Prop := gfPowersUptoRow.holds Try.pinned (OpenSpec.upto gfPowersSpec)

/-- 'trunnionlaw02.GfDivs', WHERE WHAT IT READS IS OF BULK AT MOST 1048576: true; the input reads as it did. -/
def gfDivsUptoRow : OpenClaim := { program := "ytanaaleojpbfbaa", sum := "c65dad616aba6a20228ef443160bfd9f028191261566858262d8c1498440ad9e", func := "trunnion/trunnionlaw02.GfDivs", spec := "gfDivs", inPlace := ["sync/atomic.LoadInt64", "sync/atomic.AddInt64", "sync/atomic.LoadUint32", "(*internal/sync.Mutex).Lock", "internal/race.Disable", "sync/atomic.CompareAndSwapInt32", "internal/race.Enable", "internal/race.Acquire", "(*internal/sync.Mutex).lockSlow", "internal/sync.runtime_canSpin", "internal/sync.runtime_doSpin", "internal/sync.throw", "internal/sync.runtime_nanotime", "internal/sync.runtime_SemacquireMutex", "sync/atomic.AddInt32", "(*internal/sync.Mutex).Unlock", "internal/race.ReleaseMerge", "(*internal/sync.Mutex).unlockSlow", "internal/sync.fatal", "internal/sync.runtime_Semrelease", "sync/atomic.StoreUint32"], unfollowed := true, recurses := true, apart := false, narrowed := true }
def GfDivsUptoSaid : Prop := gfDivsUptoRow.holds Try.pinned (OpenSpec.upto gfDivsSpec)

/-- 'trunnionlaw02.GfOnce', WHERE WHAT IT READS IS OF BULK AT MOST 1048576: true; the input reads as it did. -/
def gfOnceUptoRow : OpenClaim := { program := "ytanaaleojpbfbaa", sum := "c65dad616aba6a20228ef443160bfd9f028191261566858262d8c1498440ad9e", func := "trunnion/trunnionlaw02.GfOnce", spec := "gfOnce", inPlace := ["sync/atomic.LoadInt64", "sync/atomic.AddInt64", "sync/atomic.LoadUint32", "(*internal/sync.Mutex).Lock", "internal/race.Disable", "sync/atomic.CompareAndSwapInt32", "internal/race.Enable", "internal/race.Acquire", "(*internal/sync.Mutex).lockSlow", "internal/sync.runtime_canSpin", "internal/sync.runtime_doSpin", "internal/sync.throw", "internal/sync.runtime_nanotime", "internal/sync.runtime_SemacquireMutex", "sync/atomic.AddInt32", "(*internal/sync.Mutex).Unlock", "internal/race.ReleaseMerge", "(*internal/sync.Mutex).unlockSlow", "internal/sync.fatal", "internal/sync.runtime_Semrelease", "sync/atomic.StoreUint32"], unfollowed := true, recurses := true, apart := false, narrowed := true }
def GfOnceUptoSaid : Prop := gfOnceUptoRow.holds Try.pinned (OpenSpec.upto gfOnceSpec)

/-- 'trunnionlaw02.GfNil', WHERE WHAT IT READS IS OF BULK AT MOST 1048576: true; the input reads as it did. -/
def gfNilUptoRow : OpenClaim := { program := "ytanaaleojpbfbaa", sum := "c65dad616aba6a20228ef443160bfd9f028191261566858262d8c1498440ad9e", func := "trunnion/trunnionlaw02.GfNil", spec := "gfNil", inPlace := ["sync/atomic.LoadInt64", "sync/atomic.AddInt64", "sync/atomic.LoadUint32", "(*internal/sync.Mutex).Lock", "internal/race.Disable", "sync/atomic.CompareAndSwapInt32", "internal/race.Enable", "internal/race.Acquire", "(*internal/sync.Mutex).lockSlow", "internal/sync.runtime_canSpin", "internal/sync.runtime_doSpin", "internal/sync.throw", "internal/sync.runtime_nanotime", "internal/sync.runtime_SemacquireMutex", "sync/atomic.AddInt32", "(*internal/sync.Mutex).Unlock", "internal/race.ReleaseMerge", "(*internal/sync.Mutex).unlockSlow", "internal/sync.fatal", "internal/sync.runtime_Semrelease", "sync/atomic.StoreUint32"], unfollowed := true, recurses := true, apart := false, narrowed := true }
def GfNilUptoSaid : Prop := gfNilUptoRow.holds Try.pinned (OpenSpec.upto gfNilSpec)

end Rows
end Go.Proofs.Ytanaaleojpbfbaa
