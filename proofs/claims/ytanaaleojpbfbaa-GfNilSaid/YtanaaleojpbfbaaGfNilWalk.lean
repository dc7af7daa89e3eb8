/- GfNil: of a nil field nothing is had; walked. -/
import Derived.Test.YtanaaleojpbfbaaGfWakes
namespace Go.Proofs.Ytanaaleojpbfbaa.GfNilW
open Go.RowKit Go.Proofs.Ytanaaleojpbfbaa.Mem Go.Proofs.Ytanaaleojpbfbaa.Gmul Go.Proofs.Ytanaaleojpbfbaa.Gf Go.Proofs.Ytanaaleojpbfbaa.PGfR Go.Proofs.YtanaaleojpbfbaaW.PrintWords
set_option linter.unusedVariables false
set_option linter.unusedSimpArgs false

set_option maxHeartbeats 2000000 in
set_option maxRecDepth 100000 in
theorem walk (a0 : Int) (a1 : Int) (a2 : Int) (w : World) (f0 : (Lit.int .u8 a0).wf = true) (f1 : (Lit.int .u8 a1).wf = true) (f2 : (Lit.int .i64 a2).wf = true) :
    Calls Try.prog 13 #[.int .u8 a0, .int .u8 a1, .int .i64 a2] w fun e w' => e = .returned (.bool true) ∧ Below w.heap.size w w' := by
  obtain ⟨a, rfl, ha⟩ := wf_u8 f0
  obtain ⟨b, rfl, hb⟩ := wf_u8 f1
  go_enter Try.func13, Try.ntmps13
  go_wp2_with fail
  refine (wakes_calls _).mono ?_
  rintro e w1 ⟨rfl, h1, b1⟩
  go_wp2_with fail
  refine (div_nil a b _).mono ?_
  rintro e w2 ⟨rfl, rfl⟩
  go_wp2_with fail
  refine (log_nil a _).mono ?_
  rintro e w3 ⟨rfl, rfl⟩
  go_wp2_with fail
  refine (made_nil _).mono ?_
  rintro e w4 ⟨rfl, rfl⟩
  go_wp2_with fail
  refine (mul_nil a b _).mono ?_
  rintro e w5 ⟨rfl, rfl⟩
  go_wp2_with fail
  refine (exp_nil a2 _).mono ?_
  rintro e w6 ⟨rfl, rfl⟩
  go_wp2
  go_ret
  exact ⟨rfl, b1⟩
end Go.Proofs.Ytanaaleojpbfbaa.GfNilW
