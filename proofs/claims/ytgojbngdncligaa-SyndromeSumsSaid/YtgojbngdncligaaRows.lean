/-
  No cell of these rows narrows 'for every input' (looked for: loops, veiled, ifaces, maps, wideKeys, modest, calm, conditions, laid).
  DERIVED. THE GIVEN ROWS OF THIS SEAT. 11 by the template 'for every input the law returns true; each argument reads behind the call as it read before'; 0 by the template 'total and deterministic' (their statements: YtgojbngdncligaaTotals.lean).
  GIVEN WITH THE SEED: the statements are not yours to turn. If you find one false, say at which input.
  Laid BY PROGRAM, IN A SANDBOX (cutbox-rows.mjs): the forced cells as the released guide's own fill.sh prints them over the translation 7571265fa9a40bfd… (all of the seat's roots in one cut). By AI agents, Wed Nov 11 2026. No macro, syntax, notation, axiom, sorry.
-/
import Derived.Test.YtgojbngdncligaaChecked
import GoSem.Claim
import GoSem.ClaimJoined
import GoSem.ClaimMapViews
import Derived.JoinedTies
import Derived.KernelRfl
namespace Go.Proofs.Ytgojbngdncligaa
/- THE CELL 'sum', in the pinned program and in every row, IS THE sha256 OF THE DUMP (.gsa) THAT YtgojbngdncligaaProg.lean LOADS. Nothing in Lean hashes anything: it is a label: what it is worth is what the hold of that sum in a sandbox is worth. -/
noncomputable def Try.pinned : Pinned := { name := "ytgojbngdncligaa", sum := "7571265fa9a40bfd462782ecd05056dc714a853b1a30a953de3b8a34c82065f5", checked := Try.checked }
namespace Rows
def none {H : Type} : Left H := { results := [], args := [] }

/-- 'trunnionlaw03.BulkAdds': WHATEVER THE INPUT: true; the input reads as it did. -/
def bulkAddsSpec : ChangeSpec := { name := "bulkAdds", fn := fun _ => fun
  | [d1, d2] => { results := [.lit (.bool true)], args := [d1, d2] }
  | _ => none }
def bulkAddsRow : OpenClaim := { program := "ytgojbngdncligaa", sum := "7571265fa9a40bfd462782ecd05056dc714a853b1a30a953de3b8a34c82065f5", func := "trunnion/trunnionlaw03.BulkAdds", spec := "bulkAdds", inPlace := ["internal/abi.NoEscape", "internal/bytealg.MakeNoZero"], unfollowed := true, recurses := true, apart := false }
def BulkAddsSaid : Prop := bulkAddsRow.holds Try.pinned (OpenSpec.ofChange bulkAddsSpec)

/-- ITS FALSE NEIGHBOUR: 'it returns false'. Refute it at one input. -/
def bulkAddsWrong : ChangeSpec := { name := "bulkAdds", fn := fun _ => fun
  | [d1, d2] => { results := [.lit (.bool false)], args := [d1, d2] }
  | _ => none }
def BulkAddsWrongFalsely : Prop := bulkAddsRow.holds Try.pinned (OpenSpec.ofChange bulkAddsWrong)

/-- 'trunnionlaw03.BulkFolds': WHATEVER THE INPUT: true; the input reads as it did. -/
def bulkFoldsSpec : ChangeSpec := { name := "bulkFolds", fn := fun _ => fun
  | [d1, d2, d3] => { results := [.lit (.bool true)], args := [d1, d2, d3] }
  | _ => none }
def bulkFoldsRow : OpenClaim := { program := "ytgojbngdncligaa", sum := "7571265fa9a40bfd462782ecd05056dc714a853b1a30a953de3b8a34c82065f5", func := "trunnion/trunnionlaw03.BulkFolds", spec := "bulkFolds", inPlace := ["internal/abi.NoEscape", "internal/bytealg.MakeNoZero"], unfollowed := true, recurses := true, apart := false }
def BulkFoldsSaid : Prop := bulkFoldsRow.holds Try.pinned (OpenSpec.ofChange bulkFoldsSpec)

/-- ITS FALSE NEIGHBOUR: 'it returns false'. Refute it at one input. -/
def bulkFoldsWrong : ChangeSpec := { name := "bulkFolds", fn := fun _ => fun
  | [d1, d2, d3] => { results := [.lit (.bool false)], args := [d1, d2, d3] }
  | _ => none }
def BulkFoldsWrongFalsely : Prop := bulkFoldsRow.holds Try.pinned (OpenSpec.ofChange bulkFoldsWrong)

/-- 'trunnionlaw03.BulkBack': WHATEVER THE INPUT: true; the input reads as it did. -/
def bulkBackSpec : ChangeSpec := { name := "bulkBack", fn := fun _ => fun
  | [d1, d2, d3] => { results := [.lit (.bool true)], args := [d1, d2, d3] }
  | _ => none }
def bulkBackRow : OpenClaim := { program := "ytgojbngdncligaa", sum := "7571265fa9a40bfd462782ecd05056dc714a853b1a30a953de3b8a34c82065f5", func := "trunnion/trunnionlaw03.BulkBack", spec := "bulkBack", inPlace := ["internal/abi.NoEscape", "internal/bytealg.MakeNoZero"], unfollowed := true, recurses := true, apart := false }
def BulkBackSaid : Prop := bulkBackRow.holds Try.pinned (OpenSpec.ofChange bulkBackSpec)

/-- ITS FALSE NEIGHBOUR: 'it returns false'. Refute it at one input. -/
def bulkBackWrong : ChangeSpec := { name := "bulkBack", fn := fun _ => fun
  | [d1, d2, d3] => { results := [.lit (.bool false)], args := [d1, d2, d3] }
  | _ => none }
def BulkBackWrongFalsely : Prop := bulkBackRow.holds Try.pinned (OpenSpec.ofChange bulkBackWrong)

/-- 'trunnionlaw03.BulkPlaces': WHATEVER THE INPUT: true; the input reads as it did. -/
def bulkPlacesSpec : ChangeSpec := { name := "bulkPlaces", fn := fun _ => fun
  | [d1, d2, d3] => { results := [.lit (.bool true)], args := [d1, d2, d3] }
  | _ => none }
def bulkPlacesRow : OpenClaim := { program := "ytgojbngdncligaa", sum := "7571265fa9a40bfd462782ecd05056dc714a853b1a30a953de3b8a34c82065f5", func := "trunnion/trunnionlaw03.BulkPlaces", spec := "bulkPlaces", inPlace := ["internal/abi.NoEscape", "internal/bytealg.MakeNoZero"], unfollowed := true, recurses := true, apart := false }
def BulkPlacesSaid : Prop := bulkPlacesRow.holds Try.pinned (OpenSpec.ofChange bulkPlacesSpec)

/-- ITS FALSE NEIGHBOUR: 'it returns false'. Refute it at one input. -/
def bulkPlacesWrong : ChangeSpec := { name := "bulkPlaces", fn := fun _ => fun
  | [d1, d2, d3] => { results := [.lit (.bool false)], args := [d1, d2, d3] }
  | _ => none }
def BulkPlacesWrongFalsely : Prop := bulkPlacesRow.holds Try.pinned (OpenSpec.ofChange bulkPlacesWrong)

/-- 'trunnionlaw03.BulkLimits': WHATEVER THE INPUT: true; the input reads as it did. -/
def bulkLimitsSpec : ChangeSpec := { name := "bulkLimits", fn := fun _ => fun
  | [d1, d2] => { results := [.lit (.bool true)], args := [d1, d2] }
  | _ => none }
def bulkLimitsRow : OpenClaim := { program := "ytgojbngdncligaa", sum := "7571265fa9a40bfd462782ecd05056dc714a853b1a30a953de3b8a34c82065f5", func := "trunnion/trunnionlaw03.BulkLimits", spec := "bulkLimits", inPlace := ["internal/abi.NoEscape", "internal/bytealg.MakeNoZero"], unfollowed := true, recurses := true, apart := false }
def BulkLimitsSaid : Prop := bulkLimitsRow.holds Try.pinned (OpenSpec.ofChange bulkLimitsSpec)

/-- ITS FALSE NEIGHBOUR: 'it returns false'. Refute it at one input. -/
def bulkLimitsWrong : ChangeSpec := { name := "bulkLimits", fn := fun _ => fun
  | [d1, d2] => { results := [.lit (.bool false)], args := [d1, d2] }
  | _ => none }
def BulkLimitsWrongFalsely : Prop := bulkLimitsRow.holds Try.pinned (OpenSpec.ofChange bulkLimitsWrong)

/-- 'trunnionlaw04.SyndromeMakes': WHATEVER THE INPUT: true; the input reads as it did. -/
def syndromeMakesSpec : ChangeSpec := { name := "syndromeMakes", fn := fun _ => fun
  | [d1, d2, d3] => { results := [.lit (.bool true)], args := [d1, d2, d3] }
  | _ => none }
def syndromeMakesRow : OpenClaim := { program := "ytgojbngdncligaa", sum := "7571265fa9a40bfd462782ecd05056dc714a853b1a30a953de3b8a34c82065f5", func := "trunnion/trunnionlaw04.SyndromeMakes", spec := "syndromeMakes", inPlace := ["internal/abi.NoEscape", "internal/bytealg.MakeNoZero"], unfollowed := true, recurses := true, apart := false }
def SyndromeMakesSaid : Prop := syndromeMakesRow.holds Try.pinned (OpenSpec.ofChange syndromeMakesSpec)

/-- ITS FALSE NEIGHBOUR: 'it returns false'. Refute it at one input. -/
def syndromeMakesWrong : ChangeSpec := { name := "syndromeMakes", fn := fun _ => fun
  | [d1, d2, d3] => { results := [.lit (.bool false)], args := [d1, d2, d3] }
  | _ => none }
def SyndromeMakesWrongFalsely : Prop := syndromeMakesRow.holds Try.pinned (OpenSpec.ofChange syndromeMakesWrong)

/-- 'trunnionlaw04.SyndromeFits': WHATEVER THE INPUT: true; the input reads as it did. -/
def syndromeFitsSpec : ChangeSpec := { name := "syndromeFits", fn := fun _ => fun
  | [d1, d2, d3] => { results := [.lit (.bool true)], args := [d1, d2, d3] }
  | _ => none }
def syndromeFitsRow : OpenClaim := { program := "ytgojbngdncligaa", sum := "7571265fa9a40bfd462782ecd05056dc714a853b1a30a953de3b8a34c82065f5", func := "trunnion/trunnionlaw04.SyndromeFits", spec := "syndromeFits", inPlace := ["internal/abi.NoEscape", "internal/bytealg.MakeNoZero"], unfollowed := true, recurses := true, apart := false }
def SyndromeFitsSaid : Prop := syndromeFitsRow.holds Try.pinned (OpenSpec.ofChange syndromeFitsSpec)

/-- ITS FALSE NEIGHBOUR: 'it returns false'. Refute it at one input. -/
def syndromeFitsWrong : ChangeSpec := { name := "syndromeFits", fn := fun _ => fun
  | [d1, d2, d3] => { results := [.lit (.bool false)], args := [d1, d2, d3] }
  | _ => none }
def SyndromeFitsWrongFalsely : Prop := syndromeFitsRow.holds Try.pinned (OpenSpec.ofChange syndromeFitsWrong)

/-- 'trunnionlaw04.SyndromeSums': WHATEVER THE INPUT: true; the input reads as it did. -/
def syndromeSumsSpec : ChangeSpec := { name := "syndromeSums", fn := fun _ => fun
  | [d1, d2] => { results := [.lit (.bool true)], args := [d1, d2] }
  | _ => none }
def syndromeSumsRow : OpenClaim := { program := "ytgojbngdncligaa", sum := "7571265fa9a40bfd462782ecd05056dc714a853b1a30a953de3b8a34c82065f5", func := "trunnion/trunnionlaw04.SyndromeSums", spec := "syndromeSums", inPlace := ["internal/abi.NoEscape", "internal/bytealg.MakeNoZero"], unfollowed := true, recurses := true, apart := false }
def SyndromeSumsSaid : Prop := syndromeSumsRow.holds Try.pinned (OpenSpec.ofChange syndromeSumsSpec)

/-- ITS FALSE NEIGHBOUR: 'it returns false'. Refute it at one input. -/
def syndromeSumsWrong : ChangeSpec := { name := "syndromeSums", fn := fun _ => fun
  | [d1, d2] => { results := [.lit (.bool false)], args := [d1, d2] }
  | _ => none }
def SyndromeSumsWrongFalsely : Prop := syndromeSumsRow.holds Try.pinned (OpenSpec.ofChange syndromeSumsWrong)

/-- 'trunnionlaw04.SyndromeOne': WHATEVER THE INPUT: true; the input reads as it did. -/
def syndromeOneSpec : ChangeSpec := { name := "syndromeOne", fn := fun _ => fun
  | [d1, d2, d3] => { results := [.lit (.bool true)], args := [d1, d2, d3] }
  | _ => none }
def syndromeOneRow : OpenClaim := { program := "ytgojbngdncligaa", sum := "7571265fa9a40bfd462782ecd05056dc714a853b1a30a953de3b8a34c82065f5", func := "trunnion/trunnionlaw04.SyndromeOne", spec := "syndromeOne", inPlace := ["internal/abi.NoEscape", "internal/bytealg.MakeNoZero"], unfollowed := true, recurses := true, apart := false }
def SyndromeOneSaid : Prop := syndromeOneRow.holds Try.pinned (OpenSpec.ofChange syndromeOneSpec)

/-- ITS FALSE NEIGHBOUR: 'it returns false'. Refute it at one input. -/
def syndromeOneWrong : ChangeSpec := { name := "syndromeOne", fn := fun _ => fun
  | [d1, d2, d3] => { results := [.lit (.bool false)], args := [d1, d2, d3] }
  | _ => none }
def SyndromeOneWrongFalsely : Prop := syndromeOneRow.holds Try.pinned (OpenSpec.ofChange syndromeOneWrong)

/-- 'trunnionlaw04.SyndromeDeltas': WHATEVER THE INPUT: true; the input reads as it did. -/
def syndromeDeltasSpec : ChangeSpec := { name := "syndromeDeltas", fn := fun _ => fun
  | [d1, d2, d3] => { results := [.lit (.bool true)], args := [d1, d2, d3] }
  | _ => none }
def syndromeDeltasRow : OpenClaim := { program := "ytgojbngdncligaa", sum := "7571265fa9a40bfd462782ecd05056dc714a853b1a30a953de3b8a34c82065f5", func := "trunnion/trunnionlaw04.SyndromeDeltas", spec := "syndromeDeltas", inPlace := ["internal/abi.NoEscape", "internal/bytealg.MakeNoZero"], unfollowed := true, recurses := true, apart := false }
def SyndromeDeltasSaid : Prop := syndromeDeltasRow.holds Try.pinned (OpenSpec.ofChange syndromeDeltasSpec)

/-- ITS FALSE NEIGHBOUR: 'it returns false'. Refute it at one input. -/
def syndromeDeltasWrong : ChangeSpec := { name := "syndromeDeltas", fn := fun _ => fun
  | [d1, d2, d3] => { results := [.lit (.bool false)], args := [d1, d2, d3] }
  | _ => none }
def SyndromeDeltasWrongFalsely : Prop := syndromeDeltasRow.holds Try.pinned (OpenSpec.ofChange syndromeDeltasWrong)

/-- 'trunnionlaw04.SyndromeChanges': WHATEVER THE INPUT: true; the input reads as it did. -/
def syndromeChangesSpec : ChangeSpec := { name := "syndromeChanges", fn := fun _ => fun
  | [d1, d2] => { results := [.lit (.bool true)], args := [d1, d2] }
  | _ => none }
def syndromeChangesRow : OpenClaim := { program := "ytgojbngdncligaa", sum := "7571265fa9a40bfd462782ecd05056dc714a853b1a30a953de3b8a34c82065f5", func := "trunnion/trunnionlaw04.SyndromeChanges", spec := "syndromeChanges", inPlace := ["internal/abi.NoEscape", "internal/bytealg.MakeNoZero"], unfollowed := true, recurses := true, apart := false }
def SyndromeChangesSaid : Prop := syndromeChangesRow.holds Try.pinned (OpenSpec.ofChange syndromeChangesSpec)

/-- ITS FALSE NEIGHBOUR: 'it returns false'. Refute it at one input. -/
def syndromeChangesWrong : ChangeSpec := { name := "syndromeChanges", fn := fun _ => fun
  | [d1, d2] => { results := [.lit (.bool false)], args := [d1, d2] }
  | _ => none }
def SyndromeChangesWrongFalsely : Prop := syndromeChangesRow.holds Try.pinned (OpenSpec.ofChange syndromeChangesWrong)

/- THE SECOND FORM. 'bulk': how many values and letters a reading holds, each counted each time it is reached (what is shared counts as often as it is met; a slice's spare places count too). A statement '..UptoSaid' is the law's where the arguments, and the package variables that the reading takes, are together of bulk at most 1048576: NARROWER than '..Said'. Prove '..Said' where nothing that the law and all that it calls make is longer than what came in: it says more and counts as full. Else prove '..UptoSaid'. A law counts once. -/
mutual
def uptoBulk {H : Type} : DataW H → Nat
  | .lit (.string bytes) => bytes.length + 1
  | .lit _ => 1
  | .nil => 1
  | .ptr d => uptoBulk d + 1
  | .slice elems spare => uptoBulkAll elems + uptoBulkAll spare + 1
  | .agg parts => uptoBulkAll parts + 1
  | .iface _ d => uptoBulk d + 1
  | .map entries => uptoBulkEntries entries + 1
  | .held _ => 1
def uptoBulkAll {H : Type} : List (DataW H) → Nat
  | [] => 0
  | d :: r => uptoBulk d + uptoBulkAll r
def uptoBulkEntries {H : Type} : List (Lit × DataW H) → Nat
  | [] => 0
  | x :: r => uptoBulkEntry x + uptoBulkEntries r
def uptoBulkEntry {H : Type} : Lit × DataW H → Nat
  | (.string bytes, d) => bytes.length + uptoBulk d + 1
  | (_, d) => uptoBulk d + 1
 end
def uptoSmall : (H : Type) → List (DataW H) → Bool := fun _ ds => decide (uptoBulkAll ds ≤ 1048576)
def OpenSpec.upto (s : _root_.Go.ChangeSpec) : _root_.Go.OpenSpec := { _root_.Go.OpenSpec.ofChange s with cond := some uptoSmall }

/-- 'trunnionlaw03.BulkAdds', WHERE WHAT IT READS IS OF BULK AT MOST 1048576: true; the input reads as it did. -/
def bulkAddsUptoRow : OpenClaim := { program := "ytgojbngdncligaa", sum := "7571265fa9a40bfd462782ecd05056dc714a853b1a30a953de3b8a34c82065f5", func := "trunnion/trunnionlaw03.BulkAdds", spec := "bulkAdds", inPlace := ["internal/abi.NoEscape", "internal/bytealg.MakeNoZero"], unfollowed := true, recurses := true, apart := false, narrowed := true }
def BulkAddsUptoSaid : Prop := bulkAddsUptoRow.holds Try.pinned (OpenSpec.upto bulkAddsSpec)

/-- 'trunnionlaw03.BulkFolds', WHERE WHAT IT READS IS OF BULK AT MOST 1048576: true; the input reads as it did. -/
def bulkFoldsUptoRow : OpenClaim := { program := "ytgojbngdncligaa", sum := "7571265fa9a40bfd462782ecd05056dc714a853b1a30a953de3b8a34c82065f5", func := "trunnion/trunnionlaw03.BulkFolds", spec := "bulkFolds", inPlace := ["internal/abi.NoEscape", "internal/bytealg.MakeNoZero"], unfollowed := true, recurses := true, apart := false, narrowed := true }
def BulkFoldsUptoSaid : Prop := bulkFoldsUptoRow.holds Try.pinned (OpenSpec.upto bulkFoldsSpec)

/-- 'trunnionlaw03.BulkBack', WHERE WHAT IT READS IS OF BULK AT MOST 1048576: true; the input reads as it did. -/
def bulkBackUptoRow : OpenClaim := { program := "ytgojbngdncligaa", sum := "7571265fa9a40bfd462782ecd05056dc714a853b1a30a953de3b8a34c82065f5", func := "trunnion/trunnionlaw03.BulkBack", spec := "bulkBack", inPlace := ["internal/abi.NoEscape", "internal/bytealg.MakeNoZero"], unfollowed := true, recurses := true, apart := false, narrowed := true }
def BulkBackUptoSaid : Prop := bulkBackUptoRow.holds Try.pinned (OpenSpec.upto bulkBackSpec)

/-- 'trunnionlaw03.BulkPlaces', WHERE WHAT IT READS IS OF BULK AT MOST 1048576: true; the input reads as it did. -/
def bulkPlacesUptoRow : OpenClaim := { program := "ytgojbngdncligaa", sum := "7571265fa9a40bfd462782ecd05056dc714a853b1a30a953de3b8a34c82065f5", func := "trunnion/trunnionlaw03.BulkPlaces", spec := "bulkPlaces", inPlace := ["internal/abi.NoEscape", "internal/bytealg.MakeNoZero"], unfollowed := true, recurses := true, apart := false, narrowed := true }
def BulkPlacesUptoSaid : Prop := bulkPlacesUptoRow.holds Try.pinned (OpenSpec.upto bulkPlacesSpec)

/-- 'trunnionlaw03.BulkLimits', WHERE WHAT IT READS IS OF BULK AT MOST 1048576: true; the input reads as it did. -/
def bulkLimitsUptoRow : OpenClaim := { program := "ytgojbngdncligaa", sum := "7571265fa9a40bfd462782ecd05056dc714a853b1a30a953de3b8a34c82065f5", func := "trunnion/trunnionlaw03.BulkLimits", spec := "bulkLimits", inPlace := ["internal/abi.NoEscape", "internal/bytealg.MakeNoZero"], unfollowed := true, recurses := true, apart := false, narrowed := true }
def BulkLimitsUptoSaid : Prop := bulkLimitsUptoRow.holds Try.pinned (OpenSpec.upto bulkLimitsSpec)

/-- 'trunnionlaw04.SyndromeMakes', WHERE WHAT IT READS IS OF BULK AT MOST 1048576: true; the input reads as it did. -/
def syndromeMakesUptoRow : OpenClaim := { program := "ytgojbngdncligaa", sum := "7571265fa9a40bfd462782ecd05056dc714a853b1a30a953de3b8a34c82065f5", func := "trunnion/trunnionlaw04.SyndromeMakes", spec := "syndromeMakes", inPlace := ["internal/abi.NoEscape", "internal/bytealg.MakeNoZero"], unfollowed := true, recurses := true, apart := false, narrowed := true }
def SyndromeMakesUptoSaid : Prop := syndromeMakesUptoRow.holds Try.pinned (OpenSpec.upto syndromeMakesSpec)

/-- 'trunnionlaw04.SyndromeFits', WHERE WHAT IT READS IS OF BULK AT MOST 1048576: true; the input reads as it did. -/
def syndromeFitsUptoRow : OpenClaim := { program := "ytgojbngdncligaa", sum := "7571265fa9a40bfd462782ecd05056dc714a853b1a30a953de3b8a34c82065f5", func := "trunnion/trunnionlaw04.SyndromeFits", spec := "syndromeFits", inPlace := ["internal/abi.NoEscape", "internal/bytealg.MakeNoZero"], unfollowed := true, recurses := true, apart := false, narrowed := true }
def SyndromeFitsUptoSaid : Prop := syndromeFitsUptoRow.holds Try.pinned (OpenSpec.upto syndromeFitsSpec)

/-- 'trunnionlaw04.SyndromeSums', WHERE WHAT IT READS IS OF BULK AT MOST 1048576: true; the input reads as it did. -/
def syndromeSumsUptoRow : OpenClaim := { program := "ytgojbngdncligaa", sum := "7571265fa9a40bfd462782ecd05056dc714a853b1a30a953de3b8a34c82065f5", func := "trunnion/trunnionlaw04.SyndromeSums", spec := "syndromeSums", inPlace := ["internal/abi.NoEscape", "internal/bytealg.MakeNoZero"], unfollowed := true, recurses := true, apart := false, narrowed := true }
def SyndromeSumsUptoSaid : Prop := syndromeSumsUptoRow.holds Try.pinned (OpenSpec.upto syndromeSumsSpec)

/-- 'trunnionlaw04.SyndromeOne', WHERE WHAT IT READS IS OF BULK AT MOST 1048576: true; the input reads as it did. -/
def syndromeOneUptoRow : OpenClaim := { program := "ytgojbngdncligaa", sum := "7571265fa9a40bfd462782ecd05056dc714a853b1a30a953de3b8a34c82065f5", func := "trunnion/trunnionlaw04.SyndromeOne", spec := "syndromeOne", inPlace := ["internal/abi.NoEscape", "internal/bytealg.MakeNoZero"], unfollowed := true, recurses := true, apart := false, narrowed := true }
def SyndromeOneUptoSaid : Prop := syndromeOneUptoRow.holds Try.pinned (OpenSpec.upto syndromeOneSpec)

/-- 'trunnionlaw04.SyndromeDeltas', WHERE WHAT IT READS IS OF BULK AT MOST 1048576: true; the input reads as it did. -/
def syndromeDeltasUptoRow : OpenClaim := { program := "ytgojbngdncligaa", sum := "7571265fa9a40bfd462782ecd05056dc714a853b1a30a953de3b8a34c82065f5", func := "trunnion/trunnionlaw04.SyndromeDeltas", spec := "syndromeDeltas", inPlace := ["internal/abi.NoEscape", "internal/bytealg.MakeNoZero"], unfollowed := true, recurses := true, apart := false, narrowed := true }
def SyndromeDeltasUptoSaid : Prop := syndromeDeltasUptoRow.holds Try.pinned (OpenSpec.upto syndromeDeltasSpec)

/-- 'trunnionlaw04.SyndromeChanges', WHERE WHAT IT READS IS OF BULK AT MOST 1048576: true; the input reads as it did. -/
def syndromeChangesUptoRow : OpenClaim := { program := "ytgojbngdncligaa", sum := "7571265fa9a40bfd462782ecd05056dc714a853b1a30a953de3b8a34c82065f5", func := "trunnion/trunnionlaw04.SyndromeChanges", spec := "syndromeChanges", inPlace := ["internal/abi.NoEscape", "internal/bytealg.MakeNoZero"], unfollowed := true, recurses := true, apart := false, narrowed := true }
def SyndromeChangesUptoSaid : Prop := syndromeChangesUptoRow.holds Try.pinned (OpenSpec.upto syndromeChangesSpec)

end Rows
end Go.Proofs.Ytgojbngdncligaa
