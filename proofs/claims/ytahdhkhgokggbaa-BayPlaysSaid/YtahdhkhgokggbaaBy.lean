/- A bay in memory, the program's and the document's; what its calls come to, in plain words. -/
import Derived.Test.YtahdhkhgokggbaaRm
namespace Go.Proofs.Ytahdhkhgokggbaa.Bay
open Go.RowKit Go.Proofs.Ytahdhkhgokggbaa.Mem Go.Proofs.Ytahdhkhgokggbaa.Sep Go.Proofs.Ytahdhkhgokggbaa.Member
set_option linter.unusedVariables false
set_option linter.unusedSimpArgs false

/-- Is the power's end set; what is left; steps made; the members. -/
structure By where
  set : Bool
  left : Int
  steps : Int
  M : List Mb
def By.out (b : By) : Bool := b.set && decide (b.left ≤ 0)
/-- How much the document says is left. -/
def By.rest (b : By) : Int := if b.set then max 0 b.left else -1
def By.stepE (b : By) : Int := if b.set = true ∧ wrap64 (b.left + -1) < 0 then 21 else 0
def By.step (b : By) : By :=
  if b.set then (if wrap64 (b.left + -1) < 0 then { b with left := wrap64 (b.left + -1) } else { b with left := wrap64 (b.left + -1), steps := wrap64 (b.steps + 1) })
  else { b with steps := wrap64 (b.steps + 1) }
def By.thereE (b : By) (i : Int) : Int := if 0 ≤ i ∧ i < b.M.length then 0 else 11
def By.at (b : By) (i : Nat) : Mb := b.M.getD i (Mb.fresh 0)
def By.on (b : By) (i : Nat) (m : Mb) : By := { b with M := b.M.set i m }
def By.writeE (b : By) (i j : Int) (s : ByteArray) : Int := if b.thereE i ≠ 0 then 11 else if b.stepE ≠ 0 then 21 else (b.at i.toNat).putE j s
def By.write (b : By) (i j : Int) (s : ByteArray) : By := if b.thereE i ≠ 0 then b else if b.stepE ≠ 0 then b.step else b.step.on i.toNat ((b.at i.toNat).put j s)
def By.flushE (b : By) (i : Int) : Int := if b.thereE i ≠ 0 then 11 else if b.stepE ≠ 0 then 21 else (b.at i.toNat).flushE
def By.flush (b : By) (i : Int) : By := if b.thereE i ≠ 0 then b else if b.stepE ≠ 0 then b.step else b.step.on i.toNat (b.at i.toNat).flush
def By.readE (b : By) (i j : Int) : Int := if b.thereE i ≠ 0 then 11 else if b.out then 21 else (b.at i.toNat).may j
def By.get (b : By) (i j : Int) : ByteArray := if b.thereE i ≠ 0 ∨ b.out = true then ⟨#[]⟩ else (b.at i.toNat).get j
def By.cut (b : By) (k : Int) : By := { b with set := true, left := max 0 k }
def By.live (b : By) : List Nat := (List.range b.M.length).filter fun i => !(b.at i).dead
/-- Each member with its words; none behind these. -/
def crashes (KS : List (List Nat)) (M : List Mb) : List Mb := M.mapIdx fun i m => m.crash (KS.getD i [])
def By.crash (b : By) (KS : List (List Nat)) : By := { b with set := false, M := crashes KS b.M }
/-- The words' end: 1 to 32. -/
def caps (k : Int) : Nat := (max 1 (min k 32)).toNat
theorem caps_le (k : Int) : 1 ≤ caps k ∧ caps k ≤ 32 := by unfold caps; omega
theorem caps_eq (k : Int) : max 1 (min k 32) = (caps k : Nat) := by unfold caps; omega
def By.fresh (k n : Nat) : By := ⟨false, 0, 0, List.replicate k (Mb.fresh n)⟩
end Go.Proofs.Ytahdhkhgokggbaa.Bay
