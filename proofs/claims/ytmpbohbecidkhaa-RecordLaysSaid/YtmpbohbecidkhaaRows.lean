/-
  No cell of these rows narrows 'for every input' (looked for: loops, veiled, ifaces, maps, wideKeys, modest, calm, conditions, laid).
  DERIVED. THE GIVEN ROWS OF THIS SEAT. 11 by the template 'for every input the law returns true; each argument reads behind the call as it read before'; 0 by the template 'total and deterministic' (their statements: YtmpbohbecidkhaaTotals.lean).
  GIVEN WITH THE SEED: the statements are not yours to turn. If you find one false, say at which input.
  Laid BY PROGRAM, IN A SANDBOX (cutbox-rows.mjs): the forced cells as the released guide's own fill.sh prints them over the translation 6005efeab44925a9… (all of the seat's roots in one cut). By AI agents, Wed Nov 11 2026. No macro, syntax, notation, axiom, sorry.
-/
import Derived.Test.YtmpbohbecidkhaaChecked
import GoSem.Claim
import GoSem.ClaimJoined
import GoSem.ClaimMapViews
import Derived.JoinedTies
import Derived.KernelRfl
namespace Go.Proofs.Ytmpbohbecidkhaa
/- THE CELL 'sum', in the pinned program and in every row, IS THE sha256 OF THE DUMP (.gsa) THAT YtmpbohbecidkhaaProg.lean LOADS. Nothing in Lean hashes anything: it is a label: what it is worth is what the hold of that sum in a sandbox is worth. -/
noncomputable def Try.pinned : Pinned := { name := "ytmpbohbecidkhaa", sum := "6005efeab44925a9e59e3354d2397dc575a7b4a47840bd7d186c1aad030218d5", checked := Try.checked }
namespace Rows
def none {H : Type} : Left H := { results := [], args := [] }

/-- 'trunnionlaw12.LabelGood': WHATEVER THE INPUT: true; the input reads as it did. -/
def labelGoodSpec : ChangeSpec := { name := "labelGood", fn := fun _ => fun
  | [d] => { results := [.lit (.bool true)], args := [d] }
  | _ => none }
def labelGoodRow : OpenClaim := { program := "ytmpbohbecidkhaa", sum := "6005efeab44925a9e59e3354d2397dc575a7b4a47840bd7d186c1aad030218d5", func := "trunnion/trunnionlaw12.LabelGood", spec := "labelGood", inPlace := ["internal/abi.NoEscape", "internal/bytealg.MakeNoZero"], apart := false }
def LabelGoodSaid : Prop := labelGoodRow.holds Try.pinned (OpenSpec.ofChange labelGoodSpec)

/-- ITS FALSE NEIGHBOUR: 'it returns false'. Refute it at one input. -/
def labelGoodWrong : ChangeSpec := { name := "labelGood", fn := fun _ => fun
  | [d] => { results := [.lit (.bool false)], args := [d] }
  | _ => none }
def LabelGoodWrongFalsely : Prop := labelGoodRow.holds Try.pinned (OpenSpec.ofChange labelGoodWrong)

/-- 'trunnionlaw12.LabelGets': WHATEVER THE INPUT: true; the input reads as it did. -/
def labelGetsSpec : ChangeSpec := { name := "labelGets", fn := fun _ => fun
  | [d1, d2, d3] => { results := [.lit (.bool true)], args := [d1, d2, d3] }
  | _ => none }
def labelGetsRow : OpenClaim := { program := "ytmpbohbecidkhaa", sum := "6005efeab44925a9e59e3354d2397dc575a7b4a47840bd7d186c1aad030218d5", func := "trunnion/trunnionlaw12.LabelGets", spec := "labelGets", inPlace := ["internal/abi.NoEscape", "internal/bytealg.MakeNoZero"], apart := false }
def LabelGetsSaid : Prop := labelGetsRow.holds Try.pinned (OpenSpec.ofChange labelGetsSpec)

/-- ITS FALSE NEIGHBOUR: 'it returns false'. Refute it at one input. -/
def labelGetsWrong : ChangeSpec := { name := "labelGets", fn := fun _ => fun
  | [d1, d2, d3] => { results := [.lit (.bool false)], args := [d1, d2, d3] }
  | _ => none }
def LabelGetsWrongFalsely : Prop := labelGetsRow.holds Try.pinned (OpenSpec.ofChange labelGetsWrong)

/-- 'trunnionlaw12.LabelBack': WHATEVER THE INPUT: true; the input reads as it did. -/
def labelBackSpec : ChangeSpec := { name := "labelBack", fn := fun _ => fun
  | [d1, d2] => { results := [.lit (.bool true)], args := [d1, d2] }
  | _ => none }
def labelBackRow : OpenClaim := { program := "ytmpbohbecidkhaa", sum := "6005efeab44925a9e59e3354d2397dc575a7b4a47840bd7d186c1aad030218d5", func := "trunnion/trunnionlaw12.LabelBack", spec := "labelBack", inPlace := ["internal/abi.NoEscape", "internal/bytealg.MakeNoZero"], apart := false }
def LabelBackSaid : Prop := labelBackRow.holds Try.pinned (OpenSpec.ofChange labelBackSpec)

/-- ITS FALSE NEIGHBOUR: 'it returns false'. Refute it at one input. -/
def labelBackWrong : ChangeSpec := { name := "labelBack", fn := fun _ => fun
  | [d1, d2] => { results := [.lit (.bool false)], args := [d1, d2] }
  | _ => none }
def LabelBackWrongFalsely : Prop := labelBackRow.holds Try.pinned (OpenSpec.ofChange labelBackWrong)

/-- 'trunnionlaw12.LabelNewest': WHATEVER THE INPUT: true; the input reads as it did. -/
def labelNewestSpec : ChangeSpec := { name := "labelNewest", fn := fun _ => fun
  | [d1, d2] => { results := [.lit (.bool true)], args := [d1, d2] }
  | _ => none }
def labelNewestRow : OpenClaim := { program := "ytmpbohbecidkhaa", sum := "6005efeab44925a9e59e3354d2397dc575a7b4a47840bd7d186c1aad030218d5", func := "trunnion/trunnionlaw12.LabelNewest", spec := "labelNewest", inPlace := ["internal/abi.NoEscape", "internal/bytealg.MakeNoZero"], apart := false }
def LabelNewestSaid : Prop := labelNewestRow.holds Try.pinned (OpenSpec.ofChange labelNewestSpec)

/-- ITS FALSE NEIGHBOUR: 'it returns false'. Refute it at one input. -/
def labelNewestWrong : ChangeSpec := { name := "labelNewest", fn := fun _ => fun
  | [d1, d2] => { results := [.lit (.bool false)], args := [d1, d2] }
  | _ => none }
def LabelNewestWrongFalsely : Prop := labelNewestRow.holds Try.pinned (OpenSpec.ofChange labelNewestWrong)

/-- 'trunnionlaw12.LabelAsks': WHATEVER THE INPUT: true; the input reads as it did. -/
def labelAsksSpec : ChangeSpec := { name := "labelAsks", fn := fun _ => fun
  | [d1, d2, d3] => { results := [.lit (.bool true)], args := [d1, d2, d3] }
  | _ => none }
def labelAsksRow : OpenClaim := { program := "ytmpbohbecidkhaa", sum := "6005efeab44925a9e59e3354d2397dc575a7b4a47840bd7d186c1aad030218d5", func := "trunnion/trunnionlaw12.LabelAsks", spec := "labelAsks", inPlace := ["internal/abi.NoEscape", "internal/bytealg.MakeNoZero"], apart := false }
def LabelAsksSaid : Prop := labelAsksRow.holds Try.pinned (OpenSpec.ofChange labelAsksSpec)

/-- ITS FALSE NEIGHBOUR: 'it returns false'. Refute it at one input. -/
def labelAsksWrong : ChangeSpec := { name := "labelAsks", fn := fun _ => fun
  | [d1, d2, d3] => { results := [.lit (.bool false)], args := [d1, d2, d3] }
  | _ => none }
def LabelAsksWrongFalsely : Prop := labelAsksRow.holds Try.pinned (OpenSpec.ofChange labelAsksWrong)

/-- 'trunnionlaw12.LabelCopies': WHATEVER THE INPUT: true; the input reads as it did. -/
def labelCopiesSpec : ChangeSpec := { name := "labelCopies", fn := fun _ => fun
  | [d1, d2] => { results := [.lit (.bool true)], args := [d1, d2] }
  | _ => none }
def labelCopiesRow : OpenClaim := { program := "ytmpbohbecidkhaa", sum := "6005efeab44925a9e59e3354d2397dc575a7b4a47840bd7d186c1aad030218d5", func := "trunnion/trunnionlaw12.LabelCopies", spec := "labelCopies", inPlace := ["internal/abi.NoEscape", "internal/bytealg.MakeNoZero"], apart := false }
def LabelCopiesSaid : Prop := labelCopiesRow.holds Try.pinned (OpenSpec.ofChange labelCopiesSpec)

/-- ITS FALSE NEIGHBOUR: 'it returns false'. Refute it at one input. -/
def labelCopiesWrong : ChangeSpec := { name := "labelCopies", fn := fun _ => fun
  | [d1, d2] => { results := [.lit (.bool false)], args := [d1, d2] }
  | _ => none }
def LabelCopiesWrongFalsely : Prop := labelCopiesRow.holds Try.pinned (OpenSpec.ofChange labelCopiesWrong)

/-- 'trunnionlaw14.RecordLays': WHATEVER THE INPUT: true; the input reads as it did. -/
def recordLaysSpec : ChangeSpec := { name := "recordLays", fn := fun _ => fun
  | [d1, d2] => { results := [.lit (.bool true)], args := [d1, d2] }
  | _ => none }
def recordLaysRow : OpenClaim := { program := "ytmpbohbecidkhaa", sum := "6005efeab44925a9e59e3354d2397dc575a7b4a47840bd7d186c1aad030218d5", func := "trunnion/trunnionlaw14.RecordLays", spec := "recordLays", inPlace := ["sync/atomic.LoadUint32", "(*internal/sync.Mutex).Lock", "internal/race.Disable", "sync/atomic.CompareAndSwapInt32", "internal/race.Enable", "internal/race.Acquire", "(*internal/sync.Mutex).lockSlow", "internal/sync.runtime_canSpin", "internal/sync.runtime_doSpin", "internal/sync.throw", "internal/sync.runtime_nanotime", "internal/sync.runtime_SemacquireMutex", "sync/atomic.AddInt32", "(*internal/sync.Mutex).Unlock", "internal/race.ReleaseMerge", "(*internal/sync.Mutex).unlockSlow", "internal/sync.fatal", "internal/sync.runtime_Semrelease", "sync/atomic.StoreUint32", "internal/abi.NoEscape", "internal/bytealg.MakeNoZero"], unfollowed := true, recurses := true, apart := false }
def RecordLaysSaid : Prop := recordLaysRow.holds Try.pinned (OpenSpec.ofChange recordLaysSpec)

/-- ITS FALSE NEIGHBOUR: 'it returns false'. Refute it at one input. -/
def recordLaysWrong : ChangeSpec := { name := "recordLays", fn := fun _ => fun
  | [d1, d2] => { results := [.lit (.bool false)], args := [d1, d2] }
  | _ => none }
def RecordLaysWrongFalsely : Prop := recordLaysRow.holds Try.pinned (OpenSpec.ofChange recordLaysWrong)

/-- 'trunnionlaw14.RecordMarks': WHATEVER THE INPUT: true; the input reads as it did. -/
def recordMarksSpec : ChangeSpec := { name := "recordMarks", fn := fun _ => fun
  | [d1, d2, d3] => { results := [.lit (.bool true)], args := [d1, d2, d3] }
  | _ => none }
def recordMarksRow : OpenClaim := { program := "ytmpbohbecidkhaa", sum := "6005efeab44925a9e59e3354d2397dc575a7b4a47840bd7d186c1aad030218d5", func := "trunnion/trunnionlaw14.RecordMarks", spec := "recordMarks", inPlace := ["internal/abi.NoEscape", "internal/bytealg.MakeNoZero", "sync/atomic.LoadUint32", "(*internal/sync.Mutex).Lock", "internal/race.Disable", "sync/atomic.CompareAndSwapInt32", "internal/race.Enable", "internal/race.Acquire", "(*internal/sync.Mutex).lockSlow", "internal/sync.runtime_canSpin", "internal/sync.runtime_doSpin", "internal/sync.throw", "internal/sync.runtime_nanotime", "internal/sync.runtime_SemacquireMutex", "sync/atomic.AddInt32", "(*internal/sync.Mutex).Unlock", "internal/race.ReleaseMerge", "(*internal/sync.Mutex).unlockSlow", "internal/sync.fatal", "internal/sync.runtime_Semrelease", "sync/atomic.StoreUint32"], unfollowed := true, recurses := true, apart := false }
def RecordMarksSaid : Prop := recordMarksRow.holds Try.pinned (OpenSpec.ofChange recordMarksSpec)

/-- ITS FALSE NEIGHBOUR: 'it returns false'. Refute it at one input. -/
def recordMarksWrong : ChangeSpec := { name := "recordMarks", fn := fun _ => fun
  | [d1, d2, d3] => { results := [.lit (.bool false)], args := [d1, d2, d3] }
  | _ => none }
def RecordMarksWrongFalsely : Prop := recordMarksRow.holds Try.pinned (OpenSpec.ofChange recordMarksWrong)

/-- 'trunnionlaw14.RecordBack': WHATEVER THE INPUT: true; the input reads as it did. -/
def recordBackSpec : ChangeSpec := { name := "recordBack", fn := fun _ => fun
  | [d1, d2, d3] => { results := [.lit (.bool true)], args := [d1, d2, d3] }
  | _ => none }
def recordBackRow : OpenClaim := { program := "ytmpbohbecidkhaa", sum := "6005efeab44925a9e59e3354d2397dc575a7b4a47840bd7d186c1aad030218d5", func := "trunnion/trunnionlaw14.RecordBack", spec := "recordBack", inPlace := ["sync/atomic.LoadUint32", "(*internal/sync.Mutex).Lock", "internal/race.Disable", "sync/atomic.CompareAndSwapInt32", "internal/race.Enable", "internal/race.Acquire", "(*internal/sync.Mutex).lockSlow", "internal/sync.runtime_canSpin", "internal/sync.runtime_doSpin", "internal/sync.throw", "internal/sync.runtime_nanotime", "internal/sync.runtime_SemacquireMutex", "sync/atomic.AddInt32", "(*internal/sync.Mutex).Unlock", "internal/race.ReleaseMerge", "(*internal/sync.Mutex).unlockSlow", "internal/sync.fatal", "internal/sync.runtime_Semrelease", "sync/atomic.StoreUint32", "internal/abi.NoEscape", "internal/bytealg.MakeNoZero"], unfollowed := true, recurses := true, apart := false }
def RecordBackSaid : Prop := recordBackRow.holds Try.pinned (OpenSpec.ofChange recordBackSpec)

/-- ITS FALSE NEIGHBOUR: 'it returns false'. Refute it at one input. -/
def recordBackWrong : ChangeSpec := { name := "recordBack", fn := fun _ => fun
  | [d1, d2, d3] => { results := [.lit (.bool false)], args := [d1, d2, d3] }
  | _ => none }
def RecordBackWrongFalsely : Prop := recordBackRow.holds Try.pinned (OpenSpec.ofChange recordBackWrong)

/-- 'trunnionlaw14.RecordOne': WHATEVER THE INPUT: true; the input reads as it did. -/
def recordOneSpec : ChangeSpec := { name := "recordOne", fn := fun _ => fun
  | [d1, d2, d3] => { results := [.lit (.bool true)], args := [d1, d2, d3] }
  | _ => none }
def recordOneRow : OpenClaim := { program := "ytmpbohbecidkhaa", sum := "6005efeab44925a9e59e3354d2397dc575a7b4a47840bd7d186c1aad030218d5", func := "trunnion/trunnionlaw14.RecordOne", spec := "recordOne", inPlace := ["internal/abi.NoEscape", "internal/bytealg.MakeNoZero", "sync/atomic.LoadUint32", "(*internal/sync.Mutex).Lock", "internal/race.Disable", "sync/atomic.CompareAndSwapInt32", "internal/race.Enable", "internal/race.Acquire", "(*internal/sync.Mutex).lockSlow", "internal/sync.runtime_canSpin", "internal/sync.runtime_doSpin", "internal/sync.throw", "internal/sync.runtime_nanotime", "internal/sync.runtime_SemacquireMutex", "sync/atomic.AddInt32", "(*internal/sync.Mutex).Unlock", "internal/race.ReleaseMerge", "(*internal/sync.Mutex).unlockSlow", "internal/sync.fatal", "internal/sync.runtime_Semrelease", "sync/atomic.StoreUint32"], unfollowed := true, recurses := true, apart := false }
def RecordOneSaid : Prop := recordOneRow.holds Try.pinned (OpenSpec.ofChange recordOneSpec)

/-- ITS FALSE NEIGHBOUR: 'it returns false'. Refute it at one input. -/
def recordOneWrong : ChangeSpec := { name := "recordOne", fn := fun _ => fun
  | [d1, d2, d3] => { results := [.lit (.bool false)], args := [d1, d2, d3] }
  | _ => none }
def RecordOneWrongFalsely : Prop := recordOneRow.holds Try.pinned (OpenSpec.ofChange recordOneWrong)

/-- 'trunnionlaw14.RecordNewest': WHATEVER THE INPUT: true; the input reads as it did. -/
def recordNewestSpec : ChangeSpec := { name := "recordNewest", fn := fun _ => fun
  | [d1, d2] => { results := [.lit (.bool true)], args := [d1, d2] }
  | _ => none }
def recordNewestRow : OpenClaim := { program := "ytmpbohbecidkhaa", sum := "6005efeab44925a9e59e3354d2397dc575a7b4a47840bd7d186c1aad030218d5", func := "trunnion/trunnionlaw14.RecordNewest", spec := "recordNewest", inPlace := ["internal/abi.NoEscape", "internal/bytealg.MakeNoZero", "sync/atomic.LoadUint32", "(*internal/sync.Mutex).Lock", "internal/race.Disable", "sync/atomic.CompareAndSwapInt32", "internal/race.Enable", "internal/race.Acquire", "(*internal/sync.Mutex).lockSlow", "internal/sync.runtime_canSpin", "internal/sync.runtime_doSpin", "internal/sync.throw", "internal/sync.runtime_nanotime", "internal/sync.runtime_SemacquireMutex", "sync/atomic.AddInt32", "(*internal/sync.Mutex).Unlock", "internal/race.ReleaseMerge", "(*internal/sync.Mutex).unlockSlow", "internal/sync.fatal", "internal/sync.runtime_Semrelease", "sync/atomic.StoreUint32"], unfollowed := true, recurses := true, apart := false }
def RecordNewestSaid : Prop := recordNewestRow.holds Try.pinned (OpenSpec.ofChange recordNewestSpec)

/-- ITS FALSE NEIGHBOUR: 'it returns false'. Refute it at one input. -/
def recordNewestWrong : ChangeSpec := { name := "recordNewest", fn := fun _ => fun
  | [d1, d2] => { results := [.lit (.bool false)], args := [d1, d2] }
  | _ => none }
def RecordNewestWrongFalsely : Prop := recordNewestRow.holds Try.pinned (OpenSpec.ofChange recordNewestWrong)

/- THE SECOND FORM. 'bulk': how many values and letters a reading holds, each counted each time it is reached (what is shared counts as often as it is met; a slice's spare places count too). A statement '..UptoSaid' is the law's where the arguments, and the package variables that the reading takes, are together of bulk at most 1048576: NARROWER than '..Said'. Prove '..Said' where nothing that the law and all that it calls make is longer than what came in: it says more and counts as full. Else prove '..UptoSaid'. A law counts once. -/
mutual
def uptoBulk {H : Type} : DataW H → Nat
  | .lit (.string bytes) => bytes.length + 1
  | .lit _ => 1
  | .nil => 1
  | .ptr d => uptoBulk d + 1
  | .slice elems spare => uptoBulkAll elems + uptoBulkAll spare + 1
  | .agg parts => uptoBulkAll parts + 1
  | .iface _ d => uptoBulk d + 1
  | .map entries => uptoBulkEntries entries + 1
  | .held _ => 1
def uptoBulkAll {H : Type} : List (DataW H) → Nat
  | [] => 0
  | d :: r => uptoBulk d + uptoBulkAll r
def uptoBulkEntries {H : Type} : List (Lit × DataW H) → Nat
  | [] => 0
  | x :: r => uptoBulkEntry x + uptoBulkEntries r
def uptoBulkEntry {H : Type} : Lit × DataW H → Nat
  | (.string bytes, d) => bytes.length + uptoBulk d + 1
  | (_, d) => uptoBulk d + 1
 end
def uptoSmall : (H : Type) → List (DataW H) → Bool := fun _ ds => decide (uptoBulkAll ds ≤ 1048576)
def OpenSpec.upto (s : _root_.Go.ChangeSpec) : _root_.Go.OpenSpec := { _root_.Go.OpenSpec.ofChange s with cond := some uptoSmall }

/-- 'trunnionlaw12.LabelGood', WHERE WHAT IT READS IS OF BULK AT MOST 1048576: true; the input reads as it did. -/
def labelGoodUptoRow : OpenClaim := { program := "ytmpbohbecidkhaa", sum := "6005efeab44925a9e59e3354d2397dc575a7b4a47840bd7d186c1aad030218d5", func := "trunnion/trunnionlaw12.LabelGood", spec := "labelGood", inPlace := ["internal/abi.NoEscape", "internal/bytealg.MakeNoZero"], apart := false, narrowed := true }
def LabelGoodUptoSaid : Prop := labelGoodUptoRow.holds Try.pinned (OpenSpec.upto labelGoodSpec)

/-- 'trunnionlaw12.LabelGets', WHERE WHAT IT READS IS OF BULK AT MOST 1048576: true; the input reads as it did. -/
def labelGetsUptoRow : OpenClaim := { program := "ytmpbohbecidkhaa", sum := "6005efeab44925a9e59e3354d2397dc575a7b4a47840bd7d186c1aad030218d5", func := "trunnion/trunnionlaw12.LabelGets", spec := "labelGets", inPlace := ["internal/abi.NoEscape", "internal/bytealg.MakeNoZero"], apart := false, narrowed := true }
def LabelGetsUptoSaid : Prop := labelGetsUptoRow.holds Try.pinned (OpenSpec.upto labelGetsSpec)

/-- 'trunnionlaw12.LabelBack', WHERE WHAT IT READS IS OF BULK AT MOST 1048576: true; the input reads as it did. -/
def labelBackUptoRow : OpenClaim := { program := "ytmpbohbecidkhaa", sum := "6005efeab44925a9e59e3354d2397dc575a7b4a47840bd7d186c1aad030218d5", func := "trunnion/trunnionlaw12.LabelBack", spec := "labelBack", inPlace := ["internal/abi.NoEscape", "internal/bytealg.MakeNoZero"], apart := false, narrowed := true }
def LabelBackUptoSaid : Prop := labelBackUptoRow.holds Try.pinned (OpenSpec.upto labelBackSpec)

/-- 'trunnionlaw12.LabelNewest', WHERE WHAT IT READS IS OF BULK AT MOST 1048576: true; the input reads as it did. -/
def labelNewestUptoRow : OpenClaim := { program := "ytmpbohbecidkhaa", sum := "6005efeab44925a9e59e3354d2397dc575a7b4a47840bd7d186c1aad030218d5", func := "trunnion/trunnionlaw12.LabelNewest", spec := "labelNewest", inPlace := ["internal/abi.NoEscape", "internal/bytealg.MakeNoZero"], apart := false, narrowed := true }
def LabelNewestUptoSaid : Prop := labelNewestUptoRow.holds Try.pinned (OpenSpec.upto labelNewestSpec)

/-- 'trunnionlaw12.LabelAsks', WHERE WHAT IT READS IS OF BULK AT MOST 1048576: true; the input reads as it did. -/
def labelAsksUptoRow : OpenClaim := { program := "ytmpbohbecidkhaa", sum := "6005efeab44925a9e59e3354d2397dc575a7b4a47840bd7d186c1aad030218d5", func := "trunnion/trunnionlaw12.LabelAsks", spec := "labelAsks", inPlace := ["internal/abi.NoEscape", "internal/bytealg.MakeNoZero"], apart := false, narrowed := true }
def LabelAsksUptoSaid : Prop := labelAsksUptoRow.holds Try.pinned (OpenSpec.upto labelAsksSpec)

/-- 'trunnionlaw12.LabelCopies', WHERE WHAT IT READS IS OF BULK AT MOST 1048576: true; the input reads as it did. -/
def labelCopiesUptoRow : OpenClaim := { program := "ytmpbohbecidkhaa", sum := "6005efeab44925a9e59e3354d2397dc575a7b4a47840bd7d186c1aad030218d5", func := "trunnion/trunnionlaw12.LabelCopies", spec := "labelCopies", inPlace := ["internal/abi.NoEscape", "internal/bytealg.MakeNoZero"], apart := false, narrowed := true }
def LabelCopiesUptoSaid : Prop := labelCopiesUptoRow.holds Try.pinned (OpenSpec.upto labelCopiesSpec)

/-- 'trunnionlaw14.RecordLays', WHERE WHAT IT READS IS OF BULK AT MOST 1048576: true; the input reads as it did. -/
def recordLaysUptoRow : OpenClaim := { program := "ytmpbohbecidkhaa", sum := "6005efeab44925a9e59e3354d2397dc575a7b4a47840bd7d186c1aad030218d5", func := "trunnion/trunnionlaw14.RecordLays", spec := "recordLays", inPlace := ["sync/atomic.LoadUint32", "(*internal/sync.Mutex).Lock", "internal/race.Disable", "sync/atomic.CompareAndSwapInt32", "internal/race.Enable", "internal/race.Acquire", "(*internal/sync.Mutex).lockSlow", "internal/sync.runtime_canSpin", "internal/sync.runtime_doSpin", "internal/sync.throw", "internal/sync.runtime_nanotime", "internal/sync.runtime_SemacquireMutex", "sync/atomic.AddInt32", "(*internal/sync.Mutex).Unlock", "internal/race.ReleaseMerge", "(*internal/sync.Mutex).unlockSlow", "internal/sync.fatal", "internal/sync.runtime_Semrelease", "sync/atomic.StoreUint32", "internal/abi.NoEscape", "internal/bytealg.MakeNoZero"], unfollowed := true, recurses := true, apart := false, narrowed := true }
def RecordLaysUptoSaid : Prop := recordLaysUptoRow.holds Try.pinned (OpenSpec.upto recordLaysSpec)

/-- 'trunnionlaw14.RecordMarks', WHERE WHAT IT READS IS OF BULK AT MOST 1048576: true; the input reads as it did. -/
def recordMarksUptoRow : OpenClaim := { program := "ytmpbohbecidkhaa", sum := "6005efeab44925a9e59e3354d2397dc575a7b4a47840bd7d186c1aad030218d5", func := "trunnion/trunnionlaw14.RecordMarks", spec := "recordMarks", inPlace := ["internal/abi.NoEscape", "internal/bytealg.MakeNoZero", "sync/atomic.LoadUint32", "(*internal/sync.Mutex).Lock", "internal/race.Disable", "sync/atomic.CompareAndSwapInt32", "internal/race.Enable", "internal/race.Acquire", "(*internal/sync.Mutex).lockSlow", "internal/sync.runtime_canSpin", "internal/sync.runtime_doSpin", "internal/sync.throw", "internal/sync.runtime_nanotime", "internal/sync.runtime_SemacquireMutex", "sync/atomic.AddInt32", "(*internal/sync.Mutex).Unlock", "internal/race.ReleaseMerge", "(*internal/sync.Mutex).unlockSlow", "internal/sync.fatal", "internal/sync.runtime_Semrelease", "sync/atomic.StoreUint32"], unfollowed := true, recurses := true, apart := false, narrowed := true }
def RecordMarksUptoSaid : Prop := recordMarksUptoRow.holds Try.pinned (OpenSpec.upto recordMarksSpec)

/-- 'trunnionlaw14.RecordBack', WHERE WHAT IT READS IS OF BULK AT MOST 1048576: true; the input reads as it did. -/
def recordBackUptoRow : OpenClaim := { program := "ytmpbohbecidkhaa", sum := "6005efeab44925a9e59e3354d2397dc575a7b4a47840bd7d186c1aad030218d5", func := "trunnion/trunnionlaw14.RecordBack", spec := "recordBack", inPlace := ["sync/atomic.LoadUint32", "(*internal/sync.Mutex).Lock", "internal/race.Disable", "sync/atomic.CompareAndSwapInt32", "internal/race.Enable", "internal/race.Acquire", "(*internal/sync.Mutex).lockSlow", "internal/sync.runtime_canSpin", "internal/sync.runtime_doSpin", "internal/sync.throw", "internal/sync.runtime_nanotime", "internal/sync.runtime_SemacquireMutex", "sync/atomic.AddInt32", "(*internal/sync.Mutex).Unlock", "internal/race.ReleaseMerge", "(*internal/sync.Mutex).unlockSlow", "internal/sync.fatal", "internal/sync.runtime_Semrelease", "sync/atomic.StoreUint32", "internal/abi.NoEscape", "internal/bytealg.MakeNoZero"], unfollowed := true, recurses := true, apart := false, narrowed := true }
def RecordBackUptoSaid : Prop := recordBackUptoRow.holds Try.pinned (OpenSpec.upto recordBackSpec)

/-- 'trunnionlaw14.RecordOne', WHERE WHAT IT READS IS OF BULK AT MOST 1048576: true; the input reads as it did. -/
def recordOneUptoRow : OpenClaim := { program := "ytmpbohbecidkhaa", sum := "6005efeab44925a9e59e3354d2397dc575a7b4a47840bd7d186c1aad030218d5", func := "trunnion/trunnionlaw14.RecordOne", spec := "recordOne", inPlace := ["internal/abi.NoEscape", "internal/bytealg.MakeNoZero", "sync/atomic.LoadUint32", "(*internal/sync.Mutex).Lock", "internal/race.Disable", "sync/atomic.CompareAndSwapInt32", "internal/race.Enable", "internal/race.Acquire", "(*internal/sync.Mutex).lockSlow", "internal/sync.runtime_canSpin", "internal/sync.runtime_doSpin", "internal/sync.throw", "internal/sync.runtime_nanotime", "internal/sync.runtime_SemacquireMutex", "sync/atomic.AddInt32", "(*internal/sync.Mutex).Unlock", "internal/race.ReleaseMerge", "(*internal/sync.Mutex).unlockSlow", "internal/sync.fatal", "internal/sync.runtime_Semrelease", "sync/atomic.StoreUint32"], unfollowed := true, recurses := true, apart := false, narrowed := true }
def RecordOneUptoSaid : Prop := recordOneUptoRow.holds Try.pinned (OpenSpec.upto recordOneSpec)

/-- 'trunnionlaw14.RecordNewest', WHERE WHAT IT READS IS OF BULK AT MOST 1048576: true; the input reads as it did. -/
def recordNewestUptoRow : OpenClaim := { program := "ytmpbohbecidkhaa", sum := "6005efeab44925a9e59e3354d2397dc575a7b4a47840bd7d186c1aad030218d5", func := "trunnion/trunnionlaw14.RecordNewest", spec := "recordNewest", inPlace := ["internal/abi.NoEscape", "internal/bytealg.MakeNoZero", "sync/atomic.LoadUint32", "(*internal/sync.Mutex).Lock", "internal/race.Disable", "sync/atomic.CompareAndSwapInt32", "internal/race.Enable", "internal/race.Acquire", "(*internal/sync.Mutex).lockSlow", "internal/sync.runtime_canSpin", "internal/sync.runtime_doSpin", "internal/sync.throw", "internal/sync.runtime_nanotime", "internal/sync.runtime_SemacquireMutex", "sync/atomic.AddInt32", "(*internal/sync.Mutex).Unlock", "internal/race.ReleaseMerge", "(*internal/sync.Mutex).unlockSlow", "internal/sync.fatal", "internal/sync.runtime_Semrelease", "sync/atomic.StoreUint32"], unfollowed := true, recurses := true, apart := false, narrowed := true }
def RecordNewestUptoSaid : Prop := recordNewestUptoRow.holds Try.pinned (OpenSpec.upto recordNewestSpec)

end Rows
end Go.Proofs.Ytmpbohbecidkhaa
