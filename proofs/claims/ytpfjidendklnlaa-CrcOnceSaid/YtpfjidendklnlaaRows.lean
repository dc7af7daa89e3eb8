/-
  No cell of these rows narrows 'for every input' (looked for: loops, veiled, ifaces, maps, wideKeys, modest, calm, conditions, laid).
  DERIVED. THE GIVEN ROWS OF THIS SEAT. 10 by the template 'for every input the law returns true; each argument reads behind the call as it read before'; 0 by the template 'total and deterministic' (their statements: YtpfjidendklnlaaTotals.lean).
  GIVEN WITH THE SEED: the statements are not yours to turn. If you find one false, say at which input.
  Laid BY PROGRAM, IN A SANDBOX (cutbox-rows.mjs): the forced cells as the released guide's own fill.sh prints them over the translation 4ea8d5e6396a5771… (all of the seat's roots in one cut). By AI agents, Wed Nov 11 2026. No macro, syntax, notation, axiom, sorry.
-/
import Derived.Test.YtpfjidendklnlaaChecked
import GoSem.Claim
import GoSem.ClaimJoined
import GoSem.ClaimMapViews
import Derived.JoinedTies
import Derived.KernelRfl
namespace Go.Proofs.Ytpfjidendklnlaa
/- THE CELL 'sum', in the pinned program and in every row, IS THE sha256 OF THE DUMP (.gsa) THAT YtpfjidendklnlaaProg.lean LOADS. Nothing in Lean hashes anything: it is a label: what it is worth is what the hold of that sum in a sandbox is worth. -/
noncomputable def Try.pinned : Pinned := { name := "ytpfjidendklnlaa", sum := "4ea8d5e6396a57712648a53ca203c41fce4a60aa0d0a9c530ecb767a83215156", checked := Try.checked }
namespace Rows
def none {H : Type} : Left H := { results := [], args := [] }

/-- 'trunnionlaw06.CrcSums': WHATEVER THE INPUT: true; the input reads as it did. -/
def crcSumsSpec : ChangeSpec := { name := "crcSums", fn := fun _ => fun
  | [d1, d2] => { results := [.lit (.bool true)], args := [d1, d2] }
  | _ => none }
def crcSumsRow : OpenClaim := { program := "ytpfjidendklnlaa", sum := "4ea8d5e6396a57712648a53ca203c41fce4a60aa0d0a9c530ecb767a83215156", func := "trunnion/trunnionlaw06.CrcSums", spec := "crcSums", inPlace := ["sync/atomic.LoadInt64", "sync/atomic.AddInt64", "sync/atomic.LoadUint32", "(*internal/sync.Mutex).Lock", "internal/race.Disable", "sync/atomic.CompareAndSwapInt32", "internal/race.Enable", "internal/race.Acquire", "(*internal/sync.Mutex).lockSlow", "internal/sync.runtime_canSpin", "internal/sync.runtime_doSpin", "internal/sync.throw", "internal/sync.runtime_nanotime", "internal/sync.runtime_SemacquireMutex", "sync/atomic.AddInt32", "(*internal/sync.Mutex).Unlock", "internal/race.ReleaseMerge", "(*internal/sync.Mutex).unlockSlow", "internal/sync.fatal", "internal/sync.runtime_Semrelease", "sync/atomic.StoreUint32"], unfollowed := true, recurses := true, apart := false }
def CrcSumsSaid : Prop := crcSumsRow.holds Try.pinned (OpenSpec.ofChange crcSumsSpec)

/-- ITS FALSE NEIGHBOUR: 'it returns false'. Refute it at one input. -/
def crcSumsWrong : ChangeSpec := { name := "crcSums", fn := fun _ => fun
  | [d1, d2] => { results := [.lit (.bool false)], args := [d1, d2] }
  | _ => none }
def CrcSumsWrongFalsely : Prop := crcSumsRow.holds Try.pinned (OpenSpec.ofChange crcSumsWrong)

/-- 'trunnionlaw06.CrcParts': WHATEVER THE INPUT: true; the input reads as it did. -/
def crcPartsSpec : ChangeSpec := { name := "crcParts", fn := fun _ => fun
  | [d1, d2] => { results := [.lit (.bool true)], args := [d1, d2] }
  | _ => none }
def crcPartsRow : OpenClaim := { program := "ytpfjidendklnlaa", sum := "4ea8d5e6396a57712648a53ca203c41fce4a60aa0d0a9c530ecb767a83215156", func := "trunnion/trunnionlaw06.CrcParts", spec := "crcParts", inPlace := ["sync/atomic.LoadInt64", "sync/atomic.AddInt64", "sync/atomic.LoadUint32", "(*internal/sync.Mutex).Lock", "internal/race.Disable", "sync/atomic.CompareAndSwapInt32", "internal/race.Enable", "internal/race.Acquire", "(*internal/sync.Mutex).lockSlow", "internal/sync.runtime_canSpin", "internal/sync.runtime_doSpin", "internal/sync.throw", "internal/sync.runtime_nanotime", "internal/sync.runtime_SemacquireMutex", "sync/atomic.AddInt32", "(*internal/sync.Mutex).Unlock", "internal/race.ReleaseMerge", "(*internal/sync.Mutex).unlockSlow", "internal/sync.fatal", "internal/sync.runtime_Semrelease", "sync/atomic.StoreUint32"], unfollowed := true, recurses := true, apart := false }
def CrcPartsSaid : Prop := crcPartsRow.holds Try.pinned (OpenSpec.ofChange crcPartsSpec)

/-- ITS FALSE NEIGHBOUR: 'it returns false'. Refute it at one input. -/
def crcPartsWrong : ChangeSpec := { name := "crcParts", fn := fun _ => fun
  | [d1, d2] => { results := [.lit (.bool false)], args := [d1, d2] }
  | _ => none }
def CrcPartsWrongFalsely : Prop := crcPartsRow.holds Try.pinned (OpenSpec.ofChange crcPartsWrong)

/-- 'trunnionlaw06.CrcOnce': WHATEVER THE INPUT: true; the input reads as it did. -/
def crcOnceSpec : ChangeSpec := { name := "crcOnce", fn := fun _ => fun
  | [d1, d2] => { results := [.lit (.bool true)], args := [d1, d2] }
  | _ => none }
def crcOnceRow : OpenClaim := { program := "ytpfjidendklnlaa", sum := "4ea8d5e6396a57712648a53ca203c41fce4a60aa0d0a9c530ecb767a83215156", func := "trunnion/trunnionlaw06.CrcOnce", spec := "crcOnce", inPlace := ["sync/atomic.LoadInt64", "sync/atomic.AddInt64", "sync/atomic.LoadUint32", "(*internal/sync.Mutex).Lock", "internal/race.Disable", "sync/atomic.CompareAndSwapInt32", "internal/race.Enable", "internal/race.Acquire", "(*internal/sync.Mutex).lockSlow", "internal/sync.runtime_canSpin", "internal/sync.runtime_doSpin", "internal/sync.throw", "internal/sync.runtime_nanotime", "internal/sync.runtime_SemacquireMutex", "sync/atomic.AddInt32", "(*internal/sync.Mutex).Unlock", "internal/race.ReleaseMerge", "(*internal/sync.Mutex).unlockSlow", "internal/sync.fatal", "internal/sync.runtime_Semrelease", "sync/atomic.StoreUint32"], unfollowed := true, recurses := true, apart := false }
def CrcOnceSaid : Prop := crcOnceRow.holds Try.pinned (OpenSpec.ofChange crcOnceSpec)

/-- ITS FALSE NEIGHBOUR: 'it returns false'. Refute it at one input. -/
def crcOnceWrong : ChangeSpec := { name := "crcOnce", fn := fun _ => fun
  | [d1, d2] => { results := [.lit (.bool false)], args := [d1, d2] }
  | _ => none }
def CrcOnceWrongFalsely : Prop := crcOnceRow.holds Try.pinned (OpenSpec.ofChange crcOnceWrong)

/-- 'trunnionlaw06.CrcBurst': WHATEVER THE INPUT: true; the input reads as it did. -/
def crcBurstSpec : ChangeSpec := { name := "crcBurst", fn := fun _ => fun
  | [d1, d2, d3] => { results := [.lit (.bool true)], args := [d1, d2, d3] }
  | _ => none }
def crcBurstRow : OpenClaim := { program := "ytpfjidendklnlaa", sum := "4ea8d5e6396a57712648a53ca203c41fce4a60aa0d0a9c530ecb767a83215156", func := "trunnion/trunnionlaw06.CrcBurst", spec := "crcBurst", inPlace := ["sync/atomic.LoadInt64", "sync/atomic.AddInt64", "sync/atomic.LoadUint32", "(*internal/sync.Mutex).Lock", "internal/race.Disable", "sync/atomic.CompareAndSwapInt32", "internal/race.Enable", "internal/race.Acquire", "(*internal/sync.Mutex).lockSlow", "internal/sync.runtime_canSpin", "internal/sync.runtime_doSpin", "internal/sync.throw", "internal/sync.runtime_nanotime", "internal/sync.runtime_SemacquireMutex", "sync/atomic.AddInt32", "(*internal/sync.Mutex).Unlock", "internal/race.ReleaseMerge", "(*internal/sync.Mutex).unlockSlow", "internal/sync.fatal", "internal/sync.runtime_Semrelease", "sync/atomic.StoreUint32"], unfollowed := true, recurses := true, apart := false }
def CrcBurstSaid : Prop := crcBurstRow.holds Try.pinned (OpenSpec.ofChange crcBurstSpec)

/-- ITS FALSE NEIGHBOUR: 'it returns false'. Refute it at one input. -/
def crcBurstWrong : ChangeSpec := { name := "crcBurst", fn := fun _ => fun
  | [d1, d2, d3] => { results := [.lit (.bool false)], args := [d1, d2, d3] }
  | _ => none }
def CrcBurstWrongFalsely : Prop := crcBurstRow.holds Try.pinned (OpenSpec.ofChange crcBurstWrong)

/-- 'trunnionlaw12.LabelGood': WHATEVER THE INPUT: true; the input reads as it did. -/
def labelGoodSpec : ChangeSpec := { name := "labelGood", fn := fun _ => fun
  | [d] => { results := [.lit (.bool true)], args := [d] }
  | _ => none }
def labelGoodRow : OpenClaim := { program := "ytpfjidendklnlaa", sum := "4ea8d5e6396a57712648a53ca203c41fce4a60aa0d0a9c530ecb767a83215156", func := "trunnion/trunnionlaw12.LabelGood", spec := "labelGood", inPlace := ["internal/abi.NoEscape", "internal/bytealg.MakeNoZero"], apart := false }
def LabelGoodSaid : Prop := labelGoodRow.holds Try.pinned (OpenSpec.ofChange labelGoodSpec)

/-- ITS FALSE NEIGHBOUR: 'it returns false'. Refute it at one input. -/
def labelGoodWrong : ChangeSpec := { name := "labelGood", fn := fun _ => fun
  | [d] => { results := [.lit (.bool false)], args := [d] }
  | _ => none }
def LabelGoodWrongFalsely : Prop := labelGoodRow.holds Try.pinned (OpenSpec.ofChange labelGoodWrong)

/-- 'trunnionlaw12.LabelGets': WHATEVER THE INPUT: true; the input reads as it did. -/
def labelGetsSpec : ChangeSpec := { name := "labelGets", fn := fun _ => fun
  | [d1, d2, d3] => { results := [.lit (.bool true)], args := [d1, d2, d3] }
  | _ => none }
def labelGetsRow : OpenClaim := { program := "ytpfjidendklnlaa", sum := "4ea8d5e6396a57712648a53ca203c41fce4a60aa0d0a9c530ecb767a83215156", func := "trunnion/trunnionlaw12.LabelGets", spec := "labelGets", inPlace := ["internal/abi.NoEscape", "internal/bytealg.MakeNoZero"], apart := false }
def LabelGetsSaid : Prop := labelGetsRow.holds Try.pinned (OpenSpec.ofChange labelGetsSpec)

/-- ITS FALSE NEIGHBOUR: 'it returns false'. Refute it at one input. -/
def labelGetsWrong : ChangeSpec := { name := "labelGets", fn := fun _ => fun
  | [d1, d2, d3] => { results := [.lit (.bool false)], args := [d1, d2, d3] }
  | _ => none }
def LabelGetsWrongFalsely : Prop := labelGetsRow.holds Try.pinned (OpenSpec.ofChange labelGetsWrong)

/-- 'trunnionlaw12.LabelBack': WHATEVER THE INPUT: true; the input reads as it did. -/
def labelBackSpec : ChangeSpec := { name := "labelBack", fn := fun _ => fun
  | [d1, d2] => { results := [.lit (.bool true)], args := [d1, d2] }
  | _ => none }
def labelBackRow : OpenClaim := { program := "ytpfjidendklnlaa", sum := "4ea8d5e6396a57712648a53ca203c41fce4a60aa0d0a9c530ecb767a83215156", func := "trunnion/trunnionlaw12.LabelBack", spec := "labelBack", inPlace := ["internal/abi.NoEscape", "internal/bytealg.MakeNoZero"], apart := false }
def LabelBackSaid : Prop := labelBackRow.holds Try.pinned (OpenSpec.ofChange labelBackSpec)

/-- ITS FALSE NEIGHBOUR: 'it returns false'. Refute it at one input. -/
def labelBackWrong : ChangeSpec := { name := "labelBack", fn := fun _ => fun
  | [d1, d2] => { results := [.lit (.bool false)], args := [d1, d2] }
  | _ => none }
def LabelBackWrongFalsely : Prop := labelBackRow.holds Try.pinned (OpenSpec.ofChange labelBackWrong)

/-- 'trunnionlaw12.LabelNewest': WHATEVER THE INPUT: true; the input reads as it did. -/
def labelNewestSpec : ChangeSpec := { name := "labelNewest", fn := fun _ => fun
  | [d1, d2] => { results := [.lit (.bool true)], args := [d1, d2] }
  | _ => none }
def labelNewestRow : OpenClaim := { program := "ytpfjidendklnlaa", sum := "4ea8d5e6396a57712648a53ca203c41fce4a60aa0d0a9c530ecb767a83215156", func := "trunnion/trunnionlaw12.LabelNewest", spec := "labelNewest", inPlace := ["internal/abi.NoEscape", "internal/bytealg.MakeNoZero"], apart := false }
def LabelNewestSaid : Prop := labelNewestRow.holds Try.pinned (OpenSpec.ofChange labelNewestSpec)

/-- ITS FALSE NEIGHBOUR: 'it returns false'. Refute it at one input. -/
def labelNewestWrong : ChangeSpec := { name := "labelNewest", fn := fun _ => fun
  | [d1, d2] => { results := [.lit (.bool false)], args := [d1, d2] }
  | _ => none }
def LabelNewestWrongFalsely : Prop := labelNewestRow.holds Try.pinned (OpenSpec.ofChange labelNewestWrong)

/-- 'trunnionlaw12.LabelAsks': WHATEVER THE INPUT: true; the input reads as it did. -/
def labelAsksSpec : ChangeSpec := { name := "labelAsks", fn := fun _ => fun
  | [d1, d2, d3] => { results := [.lit (.bool true)], args := [d1, d2, d3] }
  | _ => none }
def labelAsksRow : OpenClaim := { program := "ytpfjidendklnlaa", sum := "4ea8d5e6396a57712648a53ca203c41fce4a60aa0d0a9c530ecb767a83215156", func := "trunnion/trunnionlaw12.LabelAsks", spec := "labelAsks", inPlace := ["internal/abi.NoEscape", "internal/bytealg.MakeNoZero"], apart := false }
def LabelAsksSaid : Prop := labelAsksRow.holds Try.pinned (OpenSpec.ofChange labelAsksSpec)

/-- ITS FALSE NEIGHBOUR: 'it returns false'. Refute it at one input. -/
def labelAsksWrong : ChangeSpec := { name := "labelAsks", fn := fun _ => fun
  | [d1, d2, d3] => { results := [.lit (.bool false)], args := [d1, d2, d3] }
  | _ => none }
def LabelAsksWrongFalsely : Prop := labelAsksRow.holds Try.pinned (OpenSpec.ofChange labelAsksWrong)

/-- 'trunnionlaw12.LabelCopies': WHATEVER THE INPUT: true; the input reads as it did. -/
def labelCopiesSpec : ChangeSpec := { name := "labelCopies", fn := fun _ => fun
  | [d1, d2] => { results := [.lit (.bool true)], args := [d1, d2] }
  | _ => none }
def labelCopiesRow : OpenClaim := { program := "ytpfjidendklnlaa", sum := "4ea8d5e6396a57712648a53ca203c41fce4a60aa0d0a9c530ecb767a83215156", func := "trunnion/trunnionlaw12.LabelCopies", spec := "labelCopies", inPlace := ["internal/abi.NoEscape", "internal/bytealg.MakeNoZero"], apart := false }
def LabelCopiesSaid : Prop := labelCopiesRow.holds Try.pinned (OpenSpec.ofChange labelCopiesSpec)

/-- ITS FALSE NEIGHBOUR: 'it returns false'. Refute it at one input. -/
def labelCopiesWrong : ChangeSpec := { name := "labelCopies", fn := fun _ => fun
  | [d1, d2] => { results := [.lit (.bool false)], args := [d1, d2] }
  | _ => none }
def LabelCopiesWrongFalsely : Prop := labelCopiesRow.holds Try.pinned (OpenSpec.ofChange labelCopiesWrong)

/- THE SECOND FORM. 'bulk': how many values and letters a reading holds, each counted each time it is reached (what is shared counts as often as it is met; a slice's spare places count too). A statement '..UptoSaid' is the law's where the arguments, and the package variables that the reading takes, are together of bulk at most 1048576: NARROWER than '..Said'. Prove '..Said' where nothing that the law and all that it calls make is longer than what came in: it says more and counts as full. Else prove '..UptoSaid'. A law counts once. -/
mutual
def uptoBulk {H : Type} : DataW H → Nat
  | .lit (.string bytes) => bytes.length + 1
  | .lit _ => 1
  | .nil => 1
  | .ptr d => uptoBulk d + 1
  | .slice elems spare => uptoBulkAll elems + uptoBulkAll spare + 1
  | .agg parts => uptoBulkAll parts + 1
  | .iface _ d => uptoBulk d + 1
  | .map entries => uptoBulkEntries entries + 1
  | .held _ => 1
def uptoBulkAll {H : Type} : List (DataW H) → Nat
  | [] => 0
  | d :: r => uptoBulk d + uptoBulkAll r
def uptoBulkEntries {H : Type} : List (Lit × DataW H) → Nat
  | [] => 0
  | x :: r => uptoBulkEntry x + uptoBulkEntries r
def uptoBulkEntry {H : Type} : Lit × DataW H → Nat
  | (.string bytes, d) => bytes.length + uptoBulk d + 1
  | (_, d) => uptoBulk d + 1
 end
def uptoSmall : (H : Type) → List (DataW H) → Bool := fun _ ds => decide (uptoBulkAll ds ≤ 1048576)
def OpenSpec.upto (s : _root_.Go.ChangeSpec) : _root_.Go.OpenSpec := { _root_.Go.OpenSpec.ofChange s with cond := some uptoSmall }

/-- 'trunnionlaw06.CrcSums', WHERE WHAT IT READS IS OF BULK AT MOST 1048576: true; the input reads as it did. -/
def crcSumsUptoRow : OpenClaim := { program := "ytpfjidendklnlaa", sum := "4ea8d5e6396a57712648a53ca203c41fce4a60aa0d0a9c530ecb767a83215156", func := "trunnion/trunnionlaw06.CrcSums", spec := "crcSums", inPlace := ["sync/atomic.LoadInt64", "sync/atomic.AddInt64", "sync/atomic.LoadUint32", "(*internal/sync.Mutex).Lock", "internal/race.Disable", "sync/atomic.CompareAndSwapInt32", "internal/race.Enable", "internal/race.Acquire", "(*internal/sync.Mutex).lockSlow", "internal/sync.runtime_canSpin", "internal/sync.runtime_doSpin", "internal/sync.throw", "internal/sync.runtime_nanotime", "internal/sync.runtime_SemacquireMutex", "sync/atomic.AddInt32", "(*internal/sync.Mutex).Unlock", "internal/race.ReleaseMerge", "(*internal/sync.Mutex).unlockSlow", "internal/sync.fatal", "internal/sync.runtime_Semrelease", "sync/atomic.StoreUint32"], unfollowed := true, recurses := true, apart := false, narrowed := true }
def CrcSumsUptoSaid : Prop := crcSumsUptoRow.holds Try.pinned (OpenSpec.upto crcSumsSpec)

/-- 'trunnionlaw06.CrcParts', WHERE WHAT IT READS IS OF BULK AT MOST 1048576: true; the input reads as it did. -/
def crcPartsUptoRow : OpenClaim := { program := "ytpfjidendklnlaa", sum := "4ea8d5e6396a57712648a53ca203c41fce4a60aa0d0a9c530ecb767a83215156", func := "trunnion/trunnionlaw06.CrcParts", spec := "crcParts", inPlace := ["sync/atomic.LoadInt64", "sync/atomic.AddInt64", "sync/atomic.LoadUint32", "(*internal/sync.Mutex).Lock", "internal/race.Disable", "sync/atomic.CompareAndSwapInt32", "internal/race.Enable", "internal/race.Acquire", "(*internal/sync.Mutex).lockSlow", "internal/sync.runtime_canSpin", "internal/sync.runtime_doSpin", "internal/sync.throw", "internal/sync.runtime_nanotime", "internal/sync.runtime_SemacquireMutex", "sync/atomic.AddInt32", "(*internal/sync.Mutex).Unlock", "internal/race.ReleaseMerge", "(*internal/sync.Mutex).unlockSlow", "internal/sync.fatal", "internal/sync.runtime_Semrelease", "sync/atomic.StoreUint32"], unfollowed := true, recurses := true, apart := false, narrowed := true }
def CrcPartsUptoSaid : Prop := crcPartsUptoRow.holds Try.pinned (OpenSpec.upto crcPartsSpec)

/-- 'trunnionlaw06.CrcOnce', WHERE WHAT IT READS IS OF BULK AT MOST 1048576: true; the input reads as it did. -/
def crcOnceUptoRow : OpenClaim := { program := "ytpfjidendklnlaa", sum := "4ea8d5e6396a57712648a53ca203c41fce4a60aa0d0a9c530ecb767a83215156", func := "trunnion/trunnionlaw06.CrcOnce", spec := "crcOnce", inPlace := ["sync/atomic.LoadInt64", "sync/atomic.AddInt64", "sync/atomic.LoadUint32", "(*internal/sync.Mutex).Lock", "internal/race.Disable", "sync/atomic.CompareAndSwapInt32", "internal/race.Enable", "internal/race.Acquire", "(*internal/sync.Mutex).lockSlow", "internal/sync.runtime_canSpin", "internal/sync.runtime_doSpin", "internal/sync.throw", "internal/sync.runtime_nanotime", "internal/sync.runtime_SemacquireMutex", "sync/atomic.AddInt32", "(*internal/sync.Mutex).Unlock", "internal/race.ReleaseMerge", "(*internal/sync.Mutex).unlockSlow", "internal/sync.fatal", "internal/sync.runtime_Semrelease", "sync/atomic.StoreUint32"], unfollowed := true, recurses := true, apart := false, narrowed := true }
def CrcOnceUptoSaid : Prop := crcOnceUptoRow.holds Try.pinned (OpenSpec.upto crcOnceSpec)

/-- 'trunnionlaw06.CrcBurst', WHERE WHAT IT READS IS OF BULK AT MOST 1048576: true; the input reads as it did. -/
def crcBurstUptoRow : OpenClaim := { program := "ytpfjidendklnlaa", sum := "4ea8d5e6396a57712648a53ca203c41fce4a60aa0d0a9c530ecb767a83215156", func := "trunnion/trunnionlaw06.CrcBurst", spec := "crcBurst", inPlace := ["sync/atomic.LoadInt64", "sync/atomic.AddInt64", "sync/atomic.LoadUint32", "(*internal/sync.Mutex).Lock", "internal/race.Disable", "sync/atomic.CompareAndSwapInt32", "internal/race.Enable", "internal/race.Acquire", "(*internal/sync.Mutex).lockSlow", "internal/sync.runtime_canSpin", "internal/sync.runtime_doSpin", "internal/sync.throw", "internal/sync.runtime_nanotime", "internal/sync.runtime_SemacquireMutex", "sync/atomic.AddInt32", "(*internal/sync.Mutex).Unlock", "internal/race.ReleaseMerge", "(*internal/sync.Mutex).unlockSlow", "internal/sync.fatal", "internal/sync.runtime_Semrelease", "sync/atomic.StoreUint32"], unfollowed := true, recurses := true, apart := false, narrowed := true }
def CrcBurstUptoSaid : Prop := crcBurstUptoRow.holds Try.pinned (OpenSpec.upto crcBurstSpec)

/-- 'trunnionlaw12.LabelGood', WHERE WHAT IT READS IS OF BULK AT MOST 1048576: true; the input reads as it did. -/
def labelGoodUptoRow : OpenClaim := { program := "ytpfjidendklnlaa", sum := "4ea8d5e6396a57712648a53ca203c41fce4a60aa0d0a9c530ecb767a83215156", func := "trunnion/trunnionlaw12.LabelGood", spec := "labelGood", inPlace := ["internal/abi.NoEscape", "internal/bytealg.MakeNoZero"], apart := false, narrowed := true }
def LabelGoodUptoSaid : Prop := labelGoodUptoRow.holds Try.pinned (OpenSpec.upto labelGoodSpec)

/-- 'trunnionlaw12.LabelGets', WHERE WHAT IT READS IS OF BULK AT MOST 1048576: true; the input reads as it did. -/
def labelGetsUptoRow : OpenClaim := { program := "ytpfjidendklnlaa", sum := "4ea8d5e6396a57712648a53ca203c41fce4a60aa0d0a9c530ecb767a83215156", func := "trunnion/trunnionlaw12.LabelGets", spec := "labelGets", inPlace := ["internal/abi.NoEscape", "internal/bytealg.MakeNoZero"], apart := false, narrowed := true }
def LabelGetsUptoSaid : Prop := labelGetsUptoRow.holds Try.pinned (OpenSpec.upto labelGetsSpec)

/-- 'trunnionlaw12.LabelBack', WHERE WHAT IT READS IS OF BULK AT MOST 1048576: true; the input reads as it did. -/
def labelBackUptoRow : OpenClaim := { program := "ytpfjidendklnlaa", sum := "4ea8d5e6396a57712648a53ca203c41fce4a60aa0d0a9c530ecb767a83215156", func := "trunnion/trunnionlaw12.LabelBack", spec := "labelBack", inPlace := ["internal/abi.NoEscape", "internal/bytealg.MakeNoZero"], apart := false, narrowed := true }
def LabelBackUptoSaid : Prop := labelBackUptoRow.holds Try.pinned (OpenSpec.upto labelBackSpec)

/-- 'trunnionlaw12.LabelNewest', WHERE WHAT IT READS IS OF BULK AT MOST 1048576: true; the input reads as it did. -/
def labelNewestUptoRow : OpenClaim := { program := "ytpfjidendklnlaa", sum := "4ea8d5e6396a57712648a53ca203c41fce4a60aa0d0a9c530ecb767a83215156", func := "trunnion/trunnionlaw12.LabelNewest", spec := "labelNewest", inPlace := ["internal/abi.NoEscape", "internal/bytealg.MakeNoZero"], apart := false, narrowed := true }
def LabelNewestUptoSaid : Prop := labelNewestUptoRow.holds Try.pinned (OpenSpec.upto labelNewestSpec)

/-- 'trunnionlaw12.LabelAsks', WHERE WHAT IT READS IS OF BULK AT MOST 1048576: true; the input reads as it did. -/
def labelAsksUptoRow : OpenClaim := { program := "ytpfjidendklnlaa", sum := "4ea8d5e6396a57712648a53ca203c41fce4a60aa0d0a9c530ecb767a83215156", func := "trunnion/trunnionlaw12.LabelAsks", spec := "labelAsks", inPlace := ["internal/abi.NoEscape", "internal/bytealg.MakeNoZero"], apart := false, narrowed := true }
def LabelAsksUptoSaid : Prop := labelAsksUptoRow.holds Try.pinned (OpenSpec.upto labelAsksSpec)

/-- 'trunnionlaw12.LabelCopies', WHERE WHAT IT READS IS OF BULK AT MOST 1048576: true; the input reads as it did. -/
def labelCopiesUptoRow : OpenClaim := { program := "ytpfjidendklnlaa", sum := "4ea8d5e6396a57712648a53ca203c41fce4a60aa0d0a9c530ecb767a83215156", func := "trunnion/trunnionlaw12.LabelCopies", spec := "labelCopies", inPlace := ["internal/abi.NoEscape", "internal/bytealg.MakeNoZero"], apart := false, narrowed := true }
def LabelCopiesUptoSaid : Prop := labelCopiesUptoRow.holds Try.pinned (OpenSpec.upto labelCopiesSpec)

end Rows
end Go.Proofs.Ytpfjidendklnlaa
