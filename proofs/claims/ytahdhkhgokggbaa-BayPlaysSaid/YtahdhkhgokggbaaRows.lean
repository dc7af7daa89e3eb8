/-
  No cell of these rows narrows 'for every input' (looked for: loops, veiled, ifaces, maps, wideKeys, modest, calm, conditions, laid).
  DERIVED. THE GIVEN ROWS OF THIS SEAT. 12 by the template 'for every input the law returns true; each argument reads behind the call as it read before'; 0 by the template 'total and deterministic' (their statements: YtahdhkhgokggbaaTotals.lean).
  GIVEN WITH THE SEED: the statements are not yours to turn. If you find one false, say at which input.
  Laid BY PROGRAM, IN A SANDBOX (cutbox-rows.mjs): the forced cells as the released guide's own fill.sh prints them over the translation 0b10f5ec2564e3f6… (all of the seat's roots in one cut). By AI agents, Wed Nov 11 2026. No macro, syntax, notation, axiom, sorry.
-/
import Derived.Test.YtahdhkhgokggbaaChecked
import GoSem.Claim
import GoSem.ClaimJoined
import GoSem.ClaimMapViews
import Derived.JoinedTies
import Derived.KernelRfl
namespace Go.Proofs.Ytahdhkhgokggbaa
/- THE CELL 'sum', in the pinned program and in every row, IS THE sha256 OF THE DUMP (.gsa) THAT YtahdhkhgokggbaaProg.lean LOADS. Nothing in Lean hashes anything: it is a label: what it is worth is what the hold of that sum in a sandbox is worth. -/
noncomputable def Try.pinned : Pinned := { name := "ytahdhkhgokggbaa", sum := "0b10f5ec2564e3f63e1fe2ff854bd04e06161aaee9becacfe7a5c0e1f9db4d8c", checked := Try.checked }
namespace Rows
def none {H : Type} : Left H := { results := [], args := [] }

/-- 'trunnionlaw28.JudgeSubsets': WHATEVER THE INPUT: true; the input reads as it did. -/
def judgeSubsetsSpec : ChangeSpec := { name := "judgeSubsets", fn := fun _ => fun
  | [d1, d2, d3] => { results := [.lit (.bool true)], args := [d1, d2, d3] }
  | _ => none }
def judgeSubsetsRow : OpenClaim := { program := "ytahdhkhgokggbaa", sum := "0b10f5ec2564e3f63e1fe2ff854bd04e06161aaee9becacfe7a5c0e1f9db4d8c", func := "trunnion/trunnionlaw28.JudgeSubsets", spec := "judgeSubsets", inPlace := ["internal/abi.NoEscape", "internal/bytealg.MakeNoZero"], apart := false }
def JudgeSubsetsSaid : Prop := judgeSubsetsRow.holds Try.pinned (OpenSpec.ofChange judgeSubsetsSpec)

/-- ITS FALSE NEIGHBOUR: 'it returns false'. Refute it at one input. -/
def judgeSubsetsWrong : ChangeSpec := { name := "judgeSubsets", fn := fun _ => fun
  | [d1, d2, d3] => { results := [.lit (.bool false)], args := [d1, d2, d3] }
  | _ => none }
def JudgeSubsetsWrongFalsely : Prop := judgeSubsetsRow.holds Try.pinned (OpenSpec.ofChange judgeSubsetsWrong)

/-- 'trunnionlaw10.MemberAll': WHATEVER THE INPUT: true; the input reads as it did. -/
def memberAllSpec : ChangeSpec := { name := "memberAll", fn := fun _ => fun
  | [d1, d2] => { results := [.lit (.bool true)], args := [d1, d2] }
  | _ => none }
def memberAllRow : OpenClaim := { program := "ytahdhkhgokggbaa", sum := "0b10f5ec2564e3f63e1fe2ff854bd04e06161aaee9becacfe7a5c0e1f9db4d8c", func := "trunnion/trunnionlaw10.MemberAll", spec := "memberAll", inPlace := ["internal/abi.NoEscape", "internal/bytealg.MakeNoZero", "sync/atomic.AddInt64", "sync/atomic.LoadInt64"], apart := false }
def MemberAllSaid : Prop := memberAllRow.holds Try.pinned (OpenSpec.ofChange memberAllSpec)

/-- ITS FALSE NEIGHBOUR: 'it returns false'. Refute it at one input. -/
def memberAllWrong : ChangeSpec := { name := "memberAll", fn := fun _ => fun
  | [d1, d2] => { results := [.lit (.bool false)], args := [d1, d2] }
  | _ => none }
def MemberAllWrongFalsely : Prop := memberAllRow.holds Try.pinned (OpenSpec.ofChange memberAllWrong)

/-- 'trunnionlaw10.MemberLasts': WHATEVER THE INPUT: true; the input reads as it did. -/
def memberLastsSpec : ChangeSpec := { name := "memberLasts", fn := fun _ => fun
  | [d1, d2, d3] => { results := [.lit (.bool true)], args := [d1, d2, d3] }
  | _ => none }
def memberLastsRow : OpenClaim := { program := "ytahdhkhgokggbaa", sum := "0b10f5ec2564e3f63e1fe2ff854bd04e06161aaee9becacfe7a5c0e1f9db4d8c", func := "trunnion/trunnionlaw10.MemberLasts", spec := "memberLasts", inPlace := ["internal/abi.NoEscape", "internal/bytealg.MakeNoZero", "sync/atomic.AddInt64", "sync/atomic.LoadInt64"], apart := false }
def MemberLastsSaid : Prop := memberLastsRow.holds Try.pinned (OpenSpec.ofChange memberLastsSpec)

/-- ITS FALSE NEIGHBOUR: 'it returns false'. Refute it at one input. -/
def memberLastsWrong : ChangeSpec := { name := "memberLasts", fn := fun _ => fun
  | [d1, d2, d3] => { results := [.lit (.bool false)], args := [d1, d2, d3] }
  | _ => none }
def MemberLastsWrongFalsely : Prop := memberLastsRow.holds Try.pinned (OpenSpec.ofChange memberLastsWrong)

/-- 'trunnionlaw28.JudgePlays': WHATEVER THE INPUT: true; the input reads as it did. -/
def judgePlaysSpec : ChangeSpec := { name := "judgePlays", fn := fun _ => fun
  | [d1, d2] => { results := [.lit (.bool true)], args := [d1, d2] }
  | _ => none }
def judgePlaysRow : OpenClaim := { program := "ytahdhkhgokggbaa", sum := "0b10f5ec2564e3f63e1fe2ff854bd04e06161aaee9becacfe7a5c0e1f9db4d8c", func := "trunnion/trunnionlaw28.JudgePlays", spec := "judgePlays", inPlace := ["internal/abi.NoEscape", "internal/bytealg.MakeNoZero"], apart := false }
def JudgePlaysSaid : Prop := judgePlaysRow.holds Try.pinned (OpenSpec.ofChange judgePlaysSpec)

/-- ITS FALSE NEIGHBOUR: 'it returns false'. Refute it at one input. -/
def judgePlaysWrong : ChangeSpec := { name := "judgePlays", fn := fun _ => fun
  | [d1, d2] => { results := [.lit (.bool false)], args := [d1, d2] }
  | _ => none }
def JudgePlaysWrongFalsely : Prop := judgePlaysRow.holds Try.pinned (OpenSpec.ofChange judgePlaysWrong)

/-- 'trunnionlaw28.JudgeSizes': WHATEVER THE INPUT: true; the input reads as it did. -/
def judgeSizesSpec : ChangeSpec := { name := "judgeSizes", fn := fun _ => fun
  | [d] => { results := [.lit (.bool true)], args := [d] }
  | _ => none }
def judgeSizesRow : OpenClaim := { program := "ytahdhkhgokggbaa", sum := "0b10f5ec2564e3f63e1fe2ff854bd04e06161aaee9becacfe7a5c0e1f9db4d8c", func := "trunnion/trunnionlaw28.JudgeSizes", spec := "judgeSizes", inPlace := ["internal/abi.NoEscape", "internal/bytealg.MakeNoZero"], apart := false }
def JudgeSizesSaid : Prop := judgeSizesRow.holds Try.pinned (OpenSpec.ofChange judgeSizesSpec)

/-- ITS FALSE NEIGHBOUR: 'it returns false'. Refute it at one input. -/
def judgeSizesWrong : ChangeSpec := { name := "judgeSizes", fn := fun _ => fun
  | [d] => { results := [.lit (.bool false)], args := [d] }
  | _ => none }
def JudgeSizesWrongFalsely : Prop := judgeSizesRow.holds Try.pinned (OpenSpec.ofChange judgeSizesWrong)

/-- 'trunnionlaw28.JudgeSettles': WHATEVER THE INPUT: true; the input reads as it did. -/
def judgeSettlesSpec : ChangeSpec := { name := "judgeSettles", fn := fun _ => fun
  | [d1, d2] => { results := [.lit (.bool true)], args := [d1, d2] }
  | _ => none }
def judgeSettlesRow : OpenClaim := { program := "ytahdhkhgokggbaa", sum := "0b10f5ec2564e3f63e1fe2ff854bd04e06161aaee9becacfe7a5c0e1f9db4d8c", func := "trunnion/trunnionlaw28.JudgeSettles", spec := "judgeSettles", inPlace := ["internal/abi.NoEscape", "internal/bytealg.MakeNoZero"], apart := false }
def JudgeSettlesSaid : Prop := judgeSettlesRow.holds Try.pinned (OpenSpec.ofChange judgeSettlesSpec)

/-- ITS FALSE NEIGHBOUR: 'it returns false'. Refute it at one input. -/
def judgeSettlesWrong : ChangeSpec := { name := "judgeSettles", fn := fun _ => fun
  | [d1, d2] => { results := [.lit (.bool false)], args := [d1, d2] }
  | _ => none }
def JudgeSettlesWrongFalsely : Prop := judgeSettlesRow.holds Try.pinned (OpenSpec.ofChange judgeSettlesWrong)

/-- 'trunnionlaw10.MemberPlays': WHATEVER THE INPUT: true; the input reads as it did. -/
def memberPlaysSpec : ChangeSpec := { name := "memberPlays", fn := fun _ => fun
  | [d1, d2] => { results := [.lit (.bool true)], args := [d1, d2] }
  | _ => none }
def memberPlaysRow : OpenClaim := { program := "ytahdhkhgokggbaa", sum := "0b10f5ec2564e3f63e1fe2ff854bd04e06161aaee9becacfe7a5c0e1f9db4d8c", func := "trunnion/trunnionlaw10.MemberPlays", spec := "memberPlays", inPlace := ["internal/abi.NoEscape", "internal/bytealg.MakeNoZero", "sync/atomic.AddInt64", "sync/atomic.LoadInt64"], unfollowed := true, recurses := true, apart := false }
def MemberPlaysSaid : Prop := memberPlaysRow.holds Try.pinned (OpenSpec.ofChange memberPlaysSpec)

/-- ITS FALSE NEIGHBOUR: 'it returns false'. Refute it at one input. -/
def memberPlaysWrong : ChangeSpec := { name := "memberPlays", fn := fun _ => fun
  | [d1, d2] => { results := [.lit (.bool false)], args := [d1, d2] }
  | _ => none }
def MemberPlaysWrongFalsely : Prop := memberPlaysRow.holds Try.pinned (OpenSpec.ofChange memberPlaysWrong)

/-- 'trunnionlaw10.MemberDead': WHATEVER THE INPUT: true; the input reads as it did. -/
def memberDeadSpec : ChangeSpec := { name := "memberDead", fn := fun _ => fun
  | [d] => { results := [.lit (.bool true)], args := [d] }
  | _ => none }
def memberDeadRow : OpenClaim := { program := "ytahdhkhgokggbaa", sum := "0b10f5ec2564e3f63e1fe2ff854bd04e06161aaee9becacfe7a5c0e1f9db4d8c", func := "trunnion/trunnionlaw10.MemberDead", spec := "memberDead", inPlace := ["internal/abi.NoEscape", "internal/bytealg.MakeNoZero", "sync/atomic.AddInt64", "sync/atomic.LoadInt64"], unfollowed := true, recurses := true, apart := false }
def MemberDeadSaid : Prop := memberDeadRow.holds Try.pinned (OpenSpec.ofChange memberDeadSpec)

/-- ITS FALSE NEIGHBOUR: 'it returns false'. Refute it at one input. -/
def memberDeadWrong : ChangeSpec := { name := "memberDead", fn := fun _ => fun
  | [d] => { results := [.lit (.bool false)], args := [d] }
  | _ => none }
def MemberDeadWrongFalsely : Prop := memberDeadRow.holds Try.pinned (OpenSpec.ofChange memberDeadWrong)

/-- 'trunnionlaw11.BayCut': WHATEVER THE INPUT: true; the input reads as it did. -/
def bayCutSpec : ChangeSpec := { name := "bayCut", fn := fun _ => fun
  | [d1, d2] => { results := [.lit (.bool true)], args := [d1, d2] }
  | _ => none }
def bayCutRow : OpenClaim := { program := "ytahdhkhgokggbaa", sum := "0b10f5ec2564e3f63e1fe2ff854bd04e06161aaee9becacfe7a5c0e1f9db4d8c", func := "trunnion/trunnionlaw11.BayCut", spec := "bayCut", inPlace := ["internal/abi.NoEscape", "internal/bytealg.MakeNoZero", "sync/atomic.StoreInt64", "sync/atomic.StoreUint32", "sync/atomic.LoadUint32", "sync/atomic.AddInt64", "sync/atomic.LoadInt64"], apart := false }
def BayCutSaid : Prop := bayCutRow.holds Try.pinned (OpenSpec.ofChange bayCutSpec)

/-- ITS FALSE NEIGHBOUR: 'it returns false'. Refute it at one input. -/
def bayCutWrong : ChangeSpec := { name := "bayCut", fn := fun _ => fun
  | [d1, d2] => { results := [.lit (.bool false)], args := [d1, d2] }
  | _ => none }
def BayCutWrongFalsely : Prop := bayCutRow.holds Try.pinned (OpenSpec.ofChange bayCutWrong)

/-- 'trunnionlaw11.BayNil': WHATEVER THE INPUT: true; the input reads as it did. -/
def bayNilSpec : ChangeSpec := { name := "bayNil", fn := fun _ => fun
  | [d] => { results := [.lit (.bool true)], args := [d] }
  | _ => none }
def bayNilRow : OpenClaim := { program := "ytahdhkhgokggbaa", sum := "0b10f5ec2564e3f63e1fe2ff854bd04e06161aaee9becacfe7a5c0e1f9db4d8c", func := "trunnion/trunnionlaw11.BayNil", spec := "bayNil", inPlace := ["internal/abi.NoEscape", "internal/bytealg.MakeNoZero", "sync/atomic.LoadUint32", "sync/atomic.LoadInt64", "sync/atomic.AddInt64", "sync/atomic.StoreInt64", "sync/atomic.StoreUint32"], apart := false }
def BayNilSaid : Prop := bayNilRow.holds Try.pinned (OpenSpec.ofChange bayNilSpec)

/-- ITS FALSE NEIGHBOUR: 'it returns false'. Refute it at one input. -/
def bayNilWrong : ChangeSpec := { name := "bayNil", fn := fun _ => fun
  | [d] => { results := [.lit (.bool false)], args := [d] }
  | _ => none }
def BayNilWrongFalsely : Prop := bayNilRow.holds Try.pinned (OpenSpec.ofChange bayNilWrong)

/-- 'trunnionlaw11.BayApart': WHATEVER THE INPUT: true; the input reads as it did. -/
def bayApartSpec : ChangeSpec := { name := "bayApart", fn := fun _ => fun
  | [d1, d2, d3] => { results := [.lit (.bool true)], args := [d1, d2, d3] }
  | _ => none }
def bayApartRow : OpenClaim := { program := "ytahdhkhgokggbaa", sum := "0b10f5ec2564e3f63e1fe2ff854bd04e06161aaee9becacfe7a5c0e1f9db4d8c", func := "trunnion/trunnionlaw11.BayApart", spec := "bayApart", inPlace := ["internal/abi.NoEscape", "internal/bytealg.MakeNoZero", "sync/atomic.StoreInt64", "sync/atomic.StoreUint32", "sync/atomic.LoadUint32", "sync/atomic.AddInt64", "sync/atomic.LoadInt64"], apart := false }
def BayApartSaid : Prop := bayApartRow.holds Try.pinned (OpenSpec.ofChange bayApartSpec)

/-- ITS FALSE NEIGHBOUR: 'it returns false'. Refute it at one input. -/
def bayApartWrong : ChangeSpec := { name := "bayApart", fn := fun _ => fun
  | [d1, d2, d3] => { results := [.lit (.bool false)], args := [d1, d2, d3] }
  | _ => none }
def BayApartWrongFalsely : Prop := bayApartRow.holds Try.pinned (OpenSpec.ofChange bayApartWrong)

/-- 'trunnionlaw11.BayPlays': WHATEVER THE INPUT: true; the input reads as it did. -/
def bayPlaysSpec : ChangeSpec := { name := "bayPlays", fn := fun _ => fun
  | [d1, d2, d3] => { results := [.lit (.bool true)], args := [d1, d2, d3] }
  | _ => none }
def bayPlaysRow : OpenClaim := { program := "ytahdhkhgokggbaa", sum := "0b10f5ec2564e3f63e1fe2ff854bd04e06161aaee9becacfe7a5c0e1f9db4d8c", func := "trunnion/trunnionlaw11.BayPlays", spec := "bayPlays", inPlace := ["internal/abi.NoEscape", "internal/bytealg.MakeNoZero", "sync/atomic.StoreInt64", "sync/atomic.StoreUint32", "sync/atomic.LoadUint32", "sync/atomic.AddInt64", "sync/atomic.LoadInt64"], apart := false }
def BayPlaysSaid : Prop := bayPlaysRow.holds Try.pinned (OpenSpec.ofChange bayPlaysSpec)

/-- ITS FALSE NEIGHBOUR: 'it returns false'. Refute it at one input. -/
def bayPlaysWrong : ChangeSpec := { name := "bayPlays", fn := fun _ => fun
  | [d1, d2, d3] => { results := [.lit (.bool false)], args := [d1, d2, d3] }
  | _ => none }
def BayPlaysWrongFalsely : Prop := bayPlaysRow.holds Try.pinned (OpenSpec.ofChange bayPlaysWrong)

/- THE SECOND FORM. 'bulk': how many values and letters a reading holds, each counted each time it is reached (what is shared counts as often as it is met; a slice's spare places count too). A statement '..UptoSaid' is the law's where the arguments, and the package variables that the reading takes, are together of bulk at most 1048576: NARROWER than '..Said'. Prove '..Said' where nothing that the law and all that it calls make is longer than what came in: it says more and counts as full. Else prove '..UptoSaid'. A law counts once. -/
mutual
def uptoBulk {H : Type} : DataW H → Nat
  | .lit (.string bytes) => bytes.length + 1
  | .lit _ => 1
  | .nil => 1
  | .ptr d => uptoBulk d + 1
  | .slice elems spare => uptoBulkAll elems + uptoBulkAll spare + 1
  | .agg parts => uptoBulkAll parts + 1
  | .iface _ d => uptoBulk d + 1
  | .map entries => uptoBulkEntries entries + 1
  | .held _ => 1
def uptoBulkAll {H : Type} : List (DataW H) → Nat
  | [] => 0
  | d :: r => uptoBulk d + uptoBulkAll r
def uptoBulkEntries {H : Type} : List (Lit × DataW H) → Nat
  | [] => 0
  | x :: r => uptoBulkEntry x + uptoBulkEntries r
def uptoBulkEntry {H : Type} : Lit × DataW H → Nat
  | (.string bytes, d) => bytes.length + uptoBulk d + 1
  | (_, d) => uptoBulk d + 1
 end
def uptoSmall : (H : Type) → List (DataW H) → Bool := fun _ ds => decide (uptoBulkAll ds ≤ 1048576)
def OpenSpec.upto (s : _root_.Go.ChangeSpec) : _root_.Go.OpenSpec := { _root_.Go.OpenSpec.ofChange s with cond := some uptoSmall }

/-- 'trunnionlaw28.JudgeSubsets', WHERE WHAT IT READS IS OF BULK AT MOST 1048576: true; the input reads as it did. -/
def judgeSubsetsUptoRow : OpenClaim := { program := "ytahdhkhgokggbaa", sum := "0b10f5ec2564e3f63e1fe2ff854bd04e06161aaee9becacfe7a5c0e1f9db4d8c", func := "trunnion/trunnionlaw28.JudgeSubsets", spec := "judgeSubsets", inPlace := ["internal/abi.NoEscape", "internal/bytealg.MakeNoZero"], apart := false, narrowed := true }
def JudgeSubsetsUptoSaid : Prop := judgeSubsetsUptoRow.holds Try.pinned (OpenSpec.upto judgeSubsetsSpec)

/-- 'trunnionlaw10.MemberAll', WHERE WHAT IT READS IS OF BULK AT MOST 1048576: true; the input reads as it did. -/
def memberAllUptoRow : OpenClaim := { program := "ytahdhkhgokggbaa", sum := "0b10f5ec2564e3f63e1fe2ff854bd04e06161aaee9becacfe7a5c0e1f9db4d8c", func := "trunnion/trunnionlaw10.MemberAll", spec := "memberAll", inPlace := ["internal/abi.NoEscape", "internal/bytealg.MakeNoZero", "sync/atomic.AddInt64", "sync/atomic.LoadInt64"], apart := false, narrowed := true }
def MemberAllUptoSaid : Prop := memberAllUptoRow.holds Try.pinned (OpenSpec.upto memberAllSpec)

/-- 'trunnionlaw10.MemberLasts', WHERE WHAT IT READS IS OF BULK AT MOST 1048576: true; the input reads as it did. -/
def memberLastsUptoRow : OpenClaim := { program := "ytahdhkhgokggbaa", sum := "0b10f5ec2564e3f63e1fe2ff854bd04e06161aaee9becacfe7a5c0e1f9db4d8c", func := "trunnion/trunnionlaw10.MemberLasts", spec := "memberLasts", inPlace := ["internal/abi.NoEscape", "internal/bytealg.MakeNoZero", "sync/atomic.AddInt64", "sync/atomic.LoadInt64"], apart := false, narrowed := true }
def MemberLastsUptoSaid : Prop := memberLastsUptoRow.holds Try.pinned (OpenSpec.upto memberLastsSpec)

/-- 'trunnionlaw28.JudgePlays', WHERE WHAT IT READS IS OF BULK AT MOST 1048576: true; the input reads as it did. -/
def judgePlaysUptoRow : OpenClaim := { program := "ytahdhkhgokggbaa", sum := "0b10f5ec2564e3f63e1fe2ff854bd04e06161aaee9becacfe7a5c0e1f9db4d8c", func := "trunnion/trunnionlaw28.JudgePlays", spec := "judgePlays", inPlace := ["internal/abi.NoEscape", "internal/bytealg.MakeNoZero"], apart := false, narrowed := true }
def JudgePlaysUptoSaid : Prop := judgePlaysUptoRow.holds Try.pinned (OpenSpec.upto judgePlaysSpec)

/-- 'trunnionlaw28.JudgeSizes', WHERE WHAT IT READS IS OF BULK AT MOST 1048576: true; the input reads as it did. -/
def judgeSizesUptoRow : OpenClaim := { program := "ytahdhkhgokggbaa", sum := "0b10f5ec2564e3f63e1fe2ff854bd04e06161aaee9becacfe7a5c0e1f9db4d8c", func := "trunnion/trunnionlaw28.JudgeSizes", spec := "judgeSizes", inPlace := ["internal/abi.NoEscape", "internal/bytealg.MakeNoZero"], apart := false, narrowed := true }
def JudgeSizesUptoSaid : Prop := judgeSizesUptoRow.holds Try.pinned (OpenSpec.upto judgeSizesSpec)

/-- 'trunnionlaw28.JudgeSettles', WHERE WHAT IT READS IS OF BULK AT MOST 1048576: true; the input reads as it did. -/
def judgeSettlesUptoRow : OpenClaim := { program := "ytahdhkhgokggbaa", sum := "0b10f5ec2564e3f63e1fe2ff854bd04e06161aaee9becacfe7a5c0e1f9db4d8c", func := "trunnion/trunnionlaw28.JudgeSettles", spec := "judgeSettles", inPlace := ["internal/abi.NoEscape", "internal/bytealg.MakeNoZero"], apart := false, narrowed := true }
def JudgeSettlesUptoSaid : Prop := judgeSettlesUptoRow.holds Try.pinned (OpenSpec.upto judgeSettlesSpec)

/-- 'trunnionlaw10.MemberPlays', WHERE WHAT IT READS IS OF BULK AT MOST 1048576: true; the input reads as it did. -/
def memberPlaysUptoRow : OpenClaim := { program := "ytahdhkhgokggbaa", sum := "0b10f5ec2564e3f63e1fe2ff854bd04e06161aaee9becacfe7a5c0e1f9db4d8c", func := "trunnion/trunnionlaw10.MemberPlays", spec := "memberPlays", inPlace := ["internal/abi.NoEscape", "internal/bytealg.MakeNoZero", "sync/atomic.AddInt64", "sync/atomic.LoadInt64"], unfollowed := true, recurses := true, apart := false, narrowed := true }
def MemberPlaysUptoSaid : Prop := memberPlaysUptoRow.holds Try.pinned (OpenSpec.upto memberPlaysSpec)

/-- 'trunnionlaw10.MemberDead', WHERE WHAT IT READS IS OF BULK AT MOST 1048576: true; the input reads as it did. -/
def memberDeadUptoRow : OpenClaim := { program := "ytahdhkhgokggbaa", sum := "0b10f5ec2564e3f63e1fe2ff854bd04e06161aaee9becacfe7a5c0e1f9db4d8c", func := "trunnion/trunnionlaw10.MemberDead", spec := "memberDead", inPlace := ["internal/abi.NoEscape", "internal/bytealg.MakeNoZero", "sync/atomic.AddInt64", "sync/atomic.LoadInt64"], unfollowed := true, recurses := true, apart := false, narrowed := true }
def MemberDeadUptoSaid : Prop := memberDeadUptoRow.holds Try.pinned (OpenSpec.upto memberDeadSpec)

/-- 'trunnionlaw11.BayCut', WHERE WHAT IT READS IS OF BULK AT MOST 1048576: true; the input reads as it did. -/
def bayCutUptoRow : OpenClaim := { program := "ytahdhkhgokggbaa", sum := "0b10f5ec2564e3f63e1fe2ff854bd04e06161aaee9becacfe7a5c0e1f9db4d8c", func := "trunnion/trunnionlaw11.BayCut", spec := "bayCut", inPlace := ["internal/abi.NoEscape", "internal/bytealg.MakeNoZero", "sync/atomic.StoreInt64", "sync/atomic.StoreUint32", "sync/atomic.LoadUint32", "sync/atomic.AddInt64", "sync/atomic.LoadInt64"], apart := false, narrowed := true }
def BayCutUptoSaid : Prop := bayCutUptoRow.holds Try.pinned (OpenSpec.upto bayCutSpec)

/-- 'trunnionlaw11.BayNil', WHERE WHAT IT READS IS OF BULK AT MOST 1048576: true; the input reads as it did. -/
def bayNilUptoRow : OpenClaim := { program := "ytahdhkhgokggbaa", sum := "0b10f5ec2564e3f63e1fe2ff854bd04e06161aaee9becacfe7a5c0e1f9db4d8c", func := "trunnion/trunnionlaw11.BayNil", spec := "bayNil", inPlace := ["internal/abi.NoEscape", "internal/bytealg.MakeNoZero", "sync/atomic.LoadUint32", "sync/atomic.LoadInt64", "sync/atomic.AddInt64", "sync/atomic.StoreInt64", "sync/atomic.StoreUint32"], apart := false, narrowed := true }
def BayNilUptoSaid : Prop := bayNilUptoRow.holds Try.pinned (OpenSpec.upto bayNilSpec)

/-- 'trunnionlaw11.BayApart', WHERE WHAT IT READS IS OF BULK AT MOST 1048576: true; the input reads as it did. -/
def bayApartUptoRow : OpenClaim := { program := "ytahdhkhgokggbaa", sum := "0b10f5ec2564e3f63e1fe2ff854bd04e06161aaee9becacfe7a5c0e1f9db4d8c", func := "trunnion/trunnionlaw11.BayApart", spec := "bayApart", inPlace := ["internal/abi.NoEscape", "internal/bytealg.MakeNoZero", "sync/atomic.StoreInt64", "sync/atomic.StoreUint32", "sync/atomic.LoadUint32", "sync/atomic.AddInt64", "sync/atomic.LoadInt64"], apart := false, narrowed := true }
def BayApartUptoSaid : Prop := bayApartUptoRow.holds Try.pinned (OpenSpec.upto bayApartSpec)

/-- 'trunnionlaw11.BayPlays', WHERE WHAT IT READS IS OF BULK AT MOST 1048576: true; the input reads as it did. -/
def bayPlaysUptoRow : OpenClaim := { program := "ytahdhkhgokggbaa", sum := "0b10f5ec2564e3f63e1fe2ff854bd04e06161aaee9becacfe7a5c0e1f9db4d8c", func := "trunnion/trunnionlaw11.BayPlays", spec := "bayPlays", inPlace := ["internal/abi.NoEscape", "internal/bytealg.MakeNoZero", "sync/atomic.StoreInt64", "sync/atomic.StoreUint32", "sync/atomic.LoadUint32", "sync/atomic.AddInt64", "sync/atomic.LoadInt64"], apart := false, narrowed := true }
def BayPlaysUptoSaid : Prop := bayPlaysUptoRow.holds Try.pinned (OpenSpec.upto bayPlaysSpec)

end Rows
end Go.Proofs.Ytahdhkhgokggbaa
