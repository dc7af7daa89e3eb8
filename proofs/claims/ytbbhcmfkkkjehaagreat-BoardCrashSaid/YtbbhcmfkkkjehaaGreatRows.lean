/-
  No cell of these rows narrows 'for every input' (looked for: loops, veiled, ifaces, maps, wideKeys, modest, calm, conditions, laid).
  DERIVED. THE GIVEN ROWS OF THIS SEAT. 9 by the template 'for every input the law returns true; each argument reads behind the call as it read before'; 0 by the template 'total and deterministic' (their statements: YtbbhcmfkkkjehaaGreatTotals.lean).
  GIVEN WITH THE SEED: the statements are not yours to turn. If you find one false, say at which input.
  Laid BY PROGRAM, IN A SANDBOX (cutbox-rows.mjs): the forced cells as the released guide's own fill.sh prints them over the translation 3ca6f25dd6b5c431… (all of the seat's roots in one cut). By AI agents, Wed Nov 11 2026. No macro, syntax, notation, axiom, sorry.
-/
import Derived.Test.YtbbhcmfkkkjehaaGreatChecked
import GoSem.Claim
import GoSem.ClaimJoined
import GoSem.ClaimMapViews
import Derived.JoinedTies
import Derived.KernelRfl
namespace Go.Proofs.YtbbhcmfkkkjehaaGreat
/- THE CELL 'sum', in the pinned program and in every row, IS THE sha256 OF THE DUMP (.gsa) THAT YtbbhcmfkkkjehaaGreatProg.lean LOADS. Nothing in Lean hashes anything: it is a label: what it is worth is what the hold of that sum in a sandbox is worth. -/
noncomputable def Tryz.pinned : Pinned := { name := "ytbbhcmfkkkjehaagreat", sum := "3ca6f25dd6b5c4319f38c3677306f3b35754be11b50ccba428b04681dacb5f8d", checked := Tryz.checked }
namespace Rows
def none {H : Type} : Left H := { results := [], args := [] }

/-- 'trunnionlaw17.BoardEpochs': WHATEVER THE INPUT: true; the input reads as it did. -/
def boardEpochsSpec : ChangeSpec := { name := "boardEpochs", fn := fun _ => fun
  | [d1, d2] => { results := [.lit (.bool true)], args := [d1, d2] }
  | _ => none }
def boardEpochsRow : OpenClaim := { program := "ytbbhcmfkkkjehaagreat", sum := "3ca6f25dd6b5c4319f38c3677306f3b35754be11b50ccba428b04681dacb5f8d", func := "trunnion/trunnionlaw17.BoardEpochs", spec := "boardEpochs", inPlace := ["internal/abi.NoEscape", "internal/bytealg.MakeNoZero", "sync/atomic.LoadUint32", "sync/atomic.AddInt64", "sync/atomic.LoadInt64"], apart := false }
def BoardEpochsSaid : Prop := boardEpochsRow.holds Tryz.pinned (OpenSpec.ofChange boardEpochsSpec)

/-- ITS FALSE NEIGHBOUR: 'it returns false'. Refute it at one input. -/
def boardEpochsWrong : ChangeSpec := { name := "boardEpochs", fn := fun _ => fun
  | [d1, d2] => { results := [.lit (.bool false)], args := [d1, d2] }
  | _ => none }
def BoardEpochsWrongFalsely : Prop := boardEpochsRow.holds Tryz.pinned (OpenSpec.ofChange boardEpochsWrong)

/-- 'trunnionlaw17.BoardFormats': WHATEVER THE INPUT: true; the input reads as it did. -/
def boardFormatsSpec : ChangeSpec := { name := "boardFormats", fn := fun _ => fun
  | [d1, d2, d3] => { results := [.lit (.bool true)], args := [d1, d2, d3] }
  | _ => none }
def boardFormatsRow : OpenClaim := { program := "ytbbhcmfkkkjehaagreat", sum := "3ca6f25dd6b5c4319f38c3677306f3b35754be11b50ccba428b04681dacb5f8d", func := "trunnion/trunnionlaw17.BoardFormats", spec := "boardFormats", inPlace := ["internal/abi.NoEscape", "internal/bytealg.MakeNoZero", "sync/atomic.LoadUint32", "sync/atomic.AddInt64", "sync/atomic.LoadInt64"], apart := false }
def BoardFormatsSaid : Prop := boardFormatsRow.holds Tryz.pinned (OpenSpec.ofChange boardFormatsSpec)

/-- ITS FALSE NEIGHBOUR: 'it returns false'. Refute it at one input. -/
def boardFormatsWrong : ChangeSpec := { name := "boardFormats", fn := fun _ => fun
  | [d1, d2, d3] => { results := [.lit (.bool false)], args := [d1, d2, d3] }
  | _ => none }
def BoardFormatsWrongFalsely : Prop := boardFormatsRow.holds Tryz.pinned (OpenSpec.ofChange boardFormatsWrong)

/-- 'trunnionlaw17.BoardNil': WHATEVER THE INPUT: true; the input reads as it did. -/
def boardNilSpec : ChangeSpec := { name := "boardNil", fn := fun _ => fun
  | [d] => { results := [.lit (.bool true)], args := [d] }
  | _ => none }
def boardNilRow : OpenClaim := { program := "ytbbhcmfkkkjehaagreat", sum := "3ca6f25dd6b5c4319f38c3677306f3b35754be11b50ccba428b04681dacb5f8d", func := "trunnion/trunnionlaw17.BoardNil", spec := "boardNil", inPlace := ["sync/atomic.LoadUint32", "sync/atomic.LoadInt64", "sync/atomic.AddInt64", "internal/abi.NoEscape", "internal/bytealg.MakeNoZero"], apart := false }
def BoardNilSaid : Prop := boardNilRow.holds Tryz.pinned (OpenSpec.ofChange boardNilSpec)

/-- ITS FALSE NEIGHBOUR: 'it returns false'. Refute it at one input. -/
def boardNilWrong : ChangeSpec := { name := "boardNil", fn := fun _ => fun
  | [d] => { results := [.lit (.bool false)], args := [d] }
  | _ => none }
def BoardNilWrongFalsely : Prop := boardNilRow.holds Tryz.pinned (OpenSpec.ofChange boardNilWrong)

/-- 'trunnionlaw17.BoardCrash': WHATEVER THE INPUT: true; the input reads as it did. -/
def boardCrashSpec : ChangeSpec := { name := "boardCrash", fn := fun _ => fun
  | [d1, d2, d3] => { results := [.lit (.bool true)], args := [d1, d2, d3] }
  | _ => none }
def boardCrashRow : OpenClaim := { program := "ytbbhcmfkkkjehaagreat", sum := "3ca6f25dd6b5c4319f38c3677306f3b35754be11b50ccba428b04681dacb5f8d", func := "trunnion/trunnionlaw17.BoardCrash", spec := "boardCrash", inPlace := ["internal/abi.NoEscape", "internal/bytealg.MakeNoZero", "sync/atomic.LoadUint32", "sync/atomic.AddInt64", "sync/atomic.LoadInt64", "sync/atomic.StoreInt64", "sync/atomic.StoreUint32"], apart := false }
def BoardCrashSaid : Prop := boardCrashRow.holds Tryz.pinned (OpenSpec.ofChange boardCrashSpec)

/-- ITS FALSE NEIGHBOUR: 'it returns false'. Refute it at one input. -/
def boardCrashWrong : ChangeSpec := { name := "boardCrash", fn := fun _ => fun
  | [d1, d2, d3] => { results := [.lit (.bool false)], args := [d1, d2, d3] }
  | _ => none }
def BoardCrashWrongFalsely : Prop := boardCrashRow.holds Tryz.pinned (OpenSpec.ofChange boardCrashWrong)

/-- 'trunnionlaw17.BoardPlays': WHATEVER THE INPUT: true; the input reads as it did. -/
def boardPlaysSpec : ChangeSpec := { name := "boardPlays", fn := fun _ => fun
  | [d1, d2] => { results := [.lit (.bool true)], args := [d1, d2] }
  | _ => none }
def boardPlaysRow : OpenClaim := { program := "ytbbhcmfkkkjehaagreat", sum := "3ca6f25dd6b5c4319f38c3677306f3b35754be11b50ccba428b04681dacb5f8d", func := "trunnion/trunnionlaw17.BoardPlays", spec := "boardPlays", inPlace := ["internal/abi.NoEscape", "internal/bytealg.MakeNoZero", "sync/atomic.LoadUint32", "sync/atomic.AddInt64", "sync/atomic.LoadInt64", "sync/atomic.StoreInt64", "sync/atomic.StoreUint32"], apart := false }
def BoardPlaysSaid : Prop := boardPlaysRow.holds Tryz.pinned (OpenSpec.ofChange boardPlaysSpec)

/-- ITS FALSE NEIGHBOUR: 'it returns false'. Refute it at one input. -/
def boardPlaysWrong : ChangeSpec := { name := "boardPlays", fn := fun _ => fun
  | [d1, d2] => { results := [.lit (.bool false)], args := [d1, d2] }
  | _ => none }
def BoardPlaysWrongFalsely : Prop := boardPlaysRow.holds Tryz.pinned (OpenSpec.ofChange boardPlaysWrong)

/-- 'trunnionlaw15.WalRises': WHATEVER THE INPUT: true; the input reads as it did. -/
def walRisesSpec : ChangeSpec := { name := "walRises", fn := fun _ => fun
  | [d] => { results := [.lit (.bool true)], args := [d] }
  | _ => none }
def walRisesRow : OpenClaim := { program := "ytbbhcmfkkkjehaagreat", sum := "3ca6f25dd6b5c4319f38c3677306f3b35754be11b50ccba428b04681dacb5f8d", func := "trunnion/trunnionlaw15.WalRises", spec := "walRises", inPlace := ["internal/abi.NoEscape", "internal/bytealg.MakeNoZero", "sync/atomic.LoadUint32", "(*internal/sync.Mutex).Lock", "internal/race.Disable", "sync/atomic.CompareAndSwapInt32", "internal/race.Enable", "internal/race.Acquire", "(*internal/sync.Mutex).lockSlow", "internal/sync.runtime_canSpin", "internal/sync.runtime_doSpin", "internal/sync.throw", "internal/sync.runtime_nanotime", "internal/sync.runtime_SemacquireMutex", "sync/atomic.AddInt32", "(*internal/sync.Mutex).Unlock", "internal/race.ReleaseMerge", "(*internal/sync.Mutex).unlockSlow", "internal/sync.fatal", "internal/sync.runtime_Semrelease", "sync/atomic.StoreUint32", "sync/atomic.AddInt64", "sync/atomic.LoadInt64"], unfollowed := true, recurses := true, apart := false }
def WalRisesSaid : Prop := walRisesRow.holds Tryz.pinned (OpenSpec.ofChange walRisesSpec)

/-- ITS FALSE NEIGHBOUR: 'it returns false'. Refute it at one input. -/
def walRisesWrong : ChangeSpec := { name := "walRises", fn := fun _ => fun
  | [d] => { results := [.lit (.bool false)], args := [d] }
  | _ => none }
def WalRisesWrongFalsely : Prop := walRisesRow.holds Tryz.pinned (OpenSpec.ofChange walRisesWrong)

/-- 'trunnionlaw15.WalRefuses': WHATEVER THE INPUT: true; the input reads as it did. -/
def walRefusesSpec : ChangeSpec := { name := "walRefuses", fn := fun _ => fun
  | [d] => { results := [.lit (.bool true)], args := [d] }
  | _ => none }
def walRefusesRow : OpenClaim := { program := "ytbbhcmfkkkjehaagreat", sum := "3ca6f25dd6b5c4319f38c3677306f3b35754be11b50ccba428b04681dacb5f8d", func := "trunnion/trunnionlaw15.WalRefuses", spec := "walRefuses", inPlace := ["sync/atomic.LoadUint32", "sync/atomic.LoadInt64", "sync/atomic.AddInt64", "internal/abi.NoEscape", "internal/bytealg.MakeNoZero", "(*internal/sync.Mutex).Lock", "internal/race.Disable", "sync/atomic.CompareAndSwapInt32", "internal/race.Enable", "internal/race.Acquire", "(*internal/sync.Mutex).lockSlow", "internal/sync.runtime_canSpin", "internal/sync.runtime_doSpin", "internal/sync.throw", "internal/sync.runtime_nanotime", "internal/sync.runtime_SemacquireMutex", "sync/atomic.AddInt32", "(*internal/sync.Mutex).Unlock", "internal/race.ReleaseMerge", "(*internal/sync.Mutex).unlockSlow", "internal/sync.fatal", "internal/sync.runtime_Semrelease", "sync/atomic.StoreUint32", "sync/atomic.StoreInt64"], unfollowed := true, recurses := true, apart := false }
def WalRefusesSaid : Prop := walRefusesRow.holds Tryz.pinned (OpenSpec.ofChange walRefusesSpec)

/-- ITS FALSE NEIGHBOUR: 'it returns false'. Refute it at one input. -/
def walRefusesWrong : ChangeSpec := { name := "walRefuses", fn := fun _ => fun
  | [d] => { results := [.lit (.bool false)], args := [d] }
  | _ => none }
def WalRefusesWrongFalsely : Prop := walRefusesRow.holds Tryz.pinned (OpenSpec.ofChange walRefusesWrong)

/-- 'trunnionlaw15.WalPlays': WHATEVER THE INPUT: true; the input reads as it did. -/
def walPlaysSpec : ChangeSpec := { name := "walPlays", fn := fun _ => fun
  | [d1, d2, d3] => { results := [.lit (.bool true)], args := [d1, d2, d3] }
  | _ => none }
def walPlaysRow : OpenClaim := { program := "ytbbhcmfkkkjehaagreat", sum := "3ca6f25dd6b5c4319f38c3677306f3b35754be11b50ccba428b04681dacb5f8d", func := "trunnion/trunnionlaw15.WalPlays", spec := "walPlays", inPlace := ["internal/abi.NoEscape", "internal/bytealg.MakeNoZero", "sync/atomic.LoadUint32", "(*internal/sync.Mutex).Lock", "internal/race.Disable", "sync/atomic.CompareAndSwapInt32", "internal/race.Enable", "internal/race.Acquire", "(*internal/sync.Mutex).lockSlow", "internal/sync.runtime_canSpin", "internal/sync.runtime_doSpin", "internal/sync.throw", "internal/sync.runtime_nanotime", "internal/sync.runtime_SemacquireMutex", "sync/atomic.AddInt32", "(*internal/sync.Mutex).Unlock", "internal/race.ReleaseMerge", "(*internal/sync.Mutex).unlockSlow", "internal/sync.fatal", "internal/sync.runtime_Semrelease", "sync/atomic.StoreUint32", "sync/atomic.AddInt64", "sync/atomic.LoadInt64", "sync/atomic.StoreInt64"], unfollowed := true, recurses := true, apart := false }
def WalPlaysSaid : Prop := walPlaysRow.holds Tryz.pinned (OpenSpec.ofChange walPlaysSpec)

/-- ITS FALSE NEIGHBOUR: 'it returns false'. Refute it at one input. -/
def walPlaysWrong : ChangeSpec := { name := "walPlays", fn := fun _ => fun
  | [d1, d2, d3] => { results := [.lit (.bool false)], args := [d1, d2, d3] }
  | _ => none }
def WalPlaysWrongFalsely : Prop := walPlaysRow.holds Tryz.pinned (OpenSpec.ofChange walPlaysWrong)

/-- 'trunnionlaw15.WalCrash': WHATEVER THE INPUT: true; the input reads as it did. -/
def walCrashSpec : ChangeSpec := { name := "walCrash", fn := fun _ => fun
  | [d1, d2, d3] => { results := [.lit (.bool true)], args := [d1, d2, d3] }
  | _ => none }
def walCrashRow : OpenClaim := { program := "ytbbhcmfkkkjehaagreat", sum := "3ca6f25dd6b5c4319f38c3677306f3b35754be11b50ccba428b04681dacb5f8d", func := "trunnion/trunnionlaw15.WalCrash", spec := "walCrash", inPlace := ["internal/abi.NoEscape", "internal/bytealg.MakeNoZero", "sync/atomic.LoadUint32", "(*internal/sync.Mutex).Lock", "internal/race.Disable", "sync/atomic.CompareAndSwapInt32", "internal/race.Enable", "internal/race.Acquire", "(*internal/sync.Mutex).lockSlow", "internal/sync.runtime_canSpin", "internal/sync.runtime_doSpin", "internal/sync.throw", "internal/sync.runtime_nanotime", "internal/sync.runtime_SemacquireMutex", "sync/atomic.AddInt32", "(*internal/sync.Mutex).Unlock", "internal/race.ReleaseMerge", "(*internal/sync.Mutex).unlockSlow", "internal/sync.fatal", "internal/sync.runtime_Semrelease", "sync/atomic.StoreUint32", "sync/atomic.AddInt64", "sync/atomic.LoadInt64", "sync/atomic.StoreInt64"], unfollowed := true, recurses := true, apart := false }
def WalCrashSaid : Prop := walCrashRow.holds Tryz.pinned (OpenSpec.ofChange walCrashSpec)

/-- ITS FALSE NEIGHBOUR: 'it returns false'. Refute it at one input. -/
def walCrashWrong : ChangeSpec := { name := "walCrash", fn := fun _ => fun
  | [d1, d2, d3] => { results := [.lit (.bool false)], args := [d1, d2, d3] }
  | _ => none }
def WalCrashWrongFalsely : Prop := walCrashRow.holds Tryz.pinned (OpenSpec.ofChange walCrashWrong)

/- THE SECOND FORM. 'bulk': how many values and letters a reading holds, each counted each time it is reached (what is shared counts as often as it is met; a slice's spare places count too). A statement '..UptoSaid' is the law's where the arguments, and the package variables that the reading takes, are together of bulk at most 1048576: NARROWER than '..Said'. Prove '..Said' where nothing that the law and all that it calls make is longer than what came in: it says more and counts as full. Else prove '..UptoSaid'. A law counts once. -/
mutual
def uptoBulk {H : Type} : DataW H → Nat
  | .lit (.string bytes) => bytes.length + 1
  | .lit _ => 1
  | .nil => 1
  | .ptr d => uptoBulk d + 1
  | .slice elems spare => uptoBulkAll elems + uptoBulkAll spare + 1
  | .agg parts => uptoBulkAll parts + 1
  | .iface _ d => uptoBulk d + 1
  | .map entries => uptoBulkEntries entries + 1
  | .held _ => 1
def uptoBulkAll {H : Type} : List (DataW H) → Nat
  | [] => 0
  | d :: r => uptoBulk d + uptoBulkAll r
def uptoBulkEntries {H : Type} : List (Lit × DataW H) → Nat
  | [] => 0
  | x :: r => uptoBulkEntry x + uptoBulkEntries r
def uptoBulkEntry {H : Type} : Lit × DataW H → Nat
  | (.string bytes, d) => bytes.length + uptoBulk d + 1
  | (_, d) => uptoBulk d + 1
 end
def uptoSmall : (H : Type) → List (DataW H) → Bool := fun _ ds => decide (uptoBulkAll ds ≤ 1048576)
def OpenSpec.upto (s : _root_.Go.ChangeSpec) : _root_.Go.OpenSpec := { _root_.Go.OpenSpec.ofChange s with cond := some uptoSmall }

/-- 'trunnionlaw17.BoardEpochs', WHERE WHAT IT READS IS OF BULK AT MOST 1048576: true; the input reads as it did. -/
def boardEpochsUptoRow : OpenClaim := { program := "ytbbhcmfkkkjehaagreat", sum := "3ca6f25dd6b5c4319f38c3677306f3b35754be11b50ccba428b04681dacb5f8d", func := "trunnion/trunnionlaw17.BoardEpochs", spec := "boardEpochs", inPlace := ["internal/abi.NoEscape", "internal/bytealg.MakeNoZero", "sync/atomic.LoadUint32", "sync/atomic.AddInt64", "sync/atomic.LoadInt64"], apart := false, narrowed := true }
def BoardEpochsUptoSaid : Prop := boardEpochsUptoRow.holds Tryz.pinned (OpenSpec.upto boardEpochsSpec)

/-- 'trunnionlaw17.BoardFormats', WHERE WHAT IT READS IS OF BULK AT MOST 1048576: true; the input reads as it did. -/
def boardFormatsUptoRow : OpenClaim := { program := "ytbbhcmfkkkjehaagreat", sum := "3ca6f25dd6b5c4319f38c3677306f3b35754be11b50ccba428b04681dacb5f8d", func := "trunnion/trunnionlaw17.BoardFormats", spec := "boardFormats", inPlace := ["internal/abi.NoEscape", "internal/bytealg.MakeNoZero", "sync/atomic.LoadUint32", "sync/atomic.AddInt64", "sync/atomic.LoadInt64"], apart := false, narrowed := true }
def BoardFormatsUptoSaid : Prop := boardFormatsUptoRow.holds Tryz.pinned (OpenSpec.upto boardFormatsSpec)

/-- 'trunnionlaw17.BoardNil', WHERE WHAT IT READS IS OF BULK AT MOST 1048576: true; the input reads as it did. -/
def boardNilUptoRow : OpenClaim := { program := "ytbbhcmfkkkjehaagreat", sum := "3ca6f25dd6b5c4319f38c3677306f3b35754be11b50ccba428b04681dacb5f8d", func := "trunnion/trunnionlaw17.BoardNil", spec := "boardNil", inPlace := ["sync/atomic.LoadUint32", "sync/atomic.LoadInt64", "sync/atomic.AddInt64", "internal/abi.NoEscape", "internal/bytealg.MakeNoZero"], apart := false, narrowed := true }
def BoardNilUptoSaid : Prop := boardNilUptoRow.holds Tryz.pinned (OpenSpec.upto boardNilSpec)

/-- 'trunnionlaw17.BoardCrash', WHERE WHAT IT READS IS OF BULK AT MOST 1048576: true; the input reads as it did. -/
def boardCrashUptoRow : OpenClaim := { program := "ytbbhcmfkkkjehaagreat", sum := "3ca6f25dd6b5c4319f38c3677306f3b35754be11b50ccba428b04681dacb5f8d", func := "trunnion/trunnionlaw17.BoardCrash", spec := "boardCrash", inPlace := ["internal/abi.NoEscape", "internal/bytealg.MakeNoZero", "sync/atomic.LoadUint32", "sync/atomic.AddInt64", "sync/atomic.LoadInt64", "sync/atomic.StoreInt64", "sync/atomic.StoreUint32"], apart := false, narrowed := true }
def BoardCrashUptoSaid : Prop := boardCrashUptoRow.holds Tryz.pinned (OpenSpec.upto boardCrashSpec)

/-- 'trunnionlaw17.BoardPlays', WHERE WHAT IT READS IS OF BULK AT MOST 1048576: true; the input reads as it did. -/
def boardPlaysUptoRow : OpenClaim := { program := "ytbbhcmfkkkjehaagreat", sum := "3ca6f25dd6b5c4319f38c3677306f3b35754be11b50ccba428b04681dacb5f8d", func := "trunnion/trunnionlaw17.BoardPlays", spec := "boardPlays", inPlace := ["internal/abi.NoEscape", "internal/bytealg.MakeNoZero", "sync/atomic.LoadUint32", "sync/atomic.AddInt64", "sync/atomic.LoadInt64", "sync/atomic.StoreInt64", "sync/atomic.StoreUint32"], apart := false, narrowed := true }
def BoardPlaysUptoSaid : Prop := boardPlaysUptoRow.holds Tryz.pinned (OpenSpec.upto boardPlaysSpec)

/-- 'trunnionlaw15.WalRises', WHERE WHAT IT READS IS OF BULK AT MOST 1048576: true; the input reads as it did. -/
def walRisesUptoRow : OpenClaim := { program := "ytbbhcmfkkkjehaagreat", sum := "3ca6f25dd6b5c4319f38c3677306f3b35754be11b50ccba428b04681dacb5f8d", func := "trunnion/trunnionlaw15.WalRises", spec := "walRises", inPlace := ["internal/abi.NoEscape", "internal/bytealg.MakeNoZero", "sync/atomic.LoadUint32", "(*internal/sync.Mutex).Lock", "internal/race.Disable", "sync/atomic.CompareAndSwapInt32", "internal/race.Enable", "internal/race.Acquire", "(*internal/sync.Mutex).lockSlow", "internal/sync.runtime_canSpin", "internal/sync.runtime_doSpin", "internal/sync.throw", "internal/sync.runtime_nanotime", "internal/sync.runtime_SemacquireMutex", "sync/atomic.AddInt32", "(*internal/sync.Mutex).Unlock", "internal/race.ReleaseMerge", "(*internal/sync.Mutex).unlockSlow", "internal/sync.fatal", "internal/sync.runtime_Semrelease", "sync/atomic.StoreUint32", "sync/atomic.AddInt64", "sync/atomic.LoadInt64"], unfollowed := true, recurses := true, apart := false, narrowed := true }
def WalRisesUptoSaid : Prop := walRisesUptoRow.holds Tryz.pinned (OpenSpec.upto walRisesSpec)

/-- 'trunnionlaw15.WalRefuses', WHERE WHAT IT READS IS OF BULK AT MOST 1048576: true; the input reads as it did. -/
def walRefusesUptoRow : OpenClaim := { program := "ytbbhcmfkkkjehaagreat", sum := "3ca6f25dd6b5c4319f38c3677306f3b35754be11b50ccba428b04681dacb5f8d", func := "trunnion/trunnionlaw15.WalRefuses", spec := "walRefuses", inPlace := ["sync/atomic.LoadUint32", "sync/atomic.LoadInt64", "sync/atomic.AddInt64", "internal/abi.NoEscape", "internal/bytealg.MakeNoZero", "(*internal/sync.Mutex).Lock", "internal/race.Disable", "sync/atomic.CompareAndSwapInt32", "internal/race.Enable", "internal/race.Acquire", "(*internal/sync.Mutex).lockSlow", "internal/sync.runtime_canSpin", "internal/sync.runtime_doSpin", "internal/sync.throw", "internal/sync.runtime_nanotime", "internal/sync.runtime_SemacquireMutex", "sync/atomic.AddInt32", "(*internal/sync.Mutex).Unlock", "internal/race.ReleaseMerge", "(*internal/sync.Mutex).unlockSlow", "internal/sync.fatal", "internal/sync.runtime_Semrelease", "sync/atomic.StoreUint32", "sync/atomic.StoreInt64"], unfollowed := true, recurses := true, apart := false, narrowed := true }
def WalRefusesUptoSaid : Prop := walRefusesUptoRow.holds Tryz.pinned (OpenSpec.upto walRefusesSpec)

/-- 'trunnionlaw15.WalPlays', WHERE WHAT IT READS IS OF BULK AT MOST 1048576: true; the input reads as it did. -/
def walPlaysUptoRow : OpenClaim := { program := "ytbbhcmfkkkjehaagreat", sum := "3ca6f25dd6b5c4319f38c3677306f3b35754be11b50ccba428b04681dacb5f8d", func := "trunnion/trunnionlaw15.WalPlays", spec := "walPlays", inPlace := ["internal/abi.NoEscape", "internal/bytealg.MakeNoZero", "sync/atomic.LoadUint32", "(*internal/sync.Mutex).Lock", "internal/race.Disable", "sync/atomic.CompareAndSwapInt32", "internal/race.Enable", "internal/race.Acquire", "(*internal/sync.Mutex).lockSlow", "internal/sync.runtime_canSpin", "internal/sync.runtime_doSpin", "internal/sync.throw", "internal/sync.runtime_nanotime", "internal/sync.runtime_SemacquireMutex", "sync/atomic.AddInt32", "(*internal/sync.Mutex).Unlock", "internal/race.ReleaseMerge", "(*internal/sync.Mutex).unlockSlow", "internal/sync.fatal", "internal/sync.runtime_Semrelease", "sync/atomic.StoreUint32", "sync/atomic.AddInt64", "sync/atomic.LoadInt64", "sync/atomic.StoreInt64"], unfollowed := true, recurses := true, apart := false, narrowed := true }
def WalPlaysUptoSaid : Prop := walPlaysUptoRow.holds Tryz.pinned (OpenSpec.upto walPlaysSpec)

/-- 'trunnionlaw15.WalCrash', WHERE WHAT IT READS IS OF BULK AT MOST 1048576: true; the input reads as it did. -/
def walCrashUptoRow : OpenClaim := { program := "ytbbhcmfkkkjehaagreat", sum := "3ca6f25dd6b5c4319f38c3677306f3b35754be11b50ccba428b04681dacb5f8d", func := "trunnion/trunnionlaw15.WalCrash", spec := "walCrash", inPlace := ["internal/abi.NoEscape", "internal/bytealg.MakeNoZero", "sync/atomic.LoadUint32", "(*internal/sync.Mutex).Lock", "internal/race.Disable", "sync/atomic.CompareAndSwapInt32", "internal/race.Enable", "internal/race.Acquire", "(*internal/sync.Mutex).lockSlow", "internal/sync.runtime_canSpin", "internal/sync.runtime_doSpin", "internal/sync.throw", "internal/sync.runtime_nanotime", "internal/sync.runtime_SemacquireMutex", "sync/atomic.AddInt32", "(*internal/sync.Mutex).Unlock", "internal/race.ReleaseMerge", "(*internal/sync.Mutex).unlockSlow", "internal/sync.fatal", "internal/sync.runtime_Semrelease", "sync/atomic.StoreUint32", "sync/atomic.AddInt64", "sync/atomic.LoadInt64", "sync/atomic.StoreInt64"], unfollowed := true, recurses := true, apart := false, narrowed := true }
def WalCrashUptoSaid : Prop := walCrashUptoRow.holds Tryz.pinned (OpenSpec.upto walCrashSpec)

end Rows
end Go.Proofs.YtbbhcmfkkkjehaaGreat
