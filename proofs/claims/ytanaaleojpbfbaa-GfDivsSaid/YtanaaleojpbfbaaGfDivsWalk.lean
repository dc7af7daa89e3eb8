/- GfDivs: every quotient, power and logarithm is the document's, or its error; walked. -/
import Derived.Test.YtanaaleojpbfbaaGfWakes
namespace Go.Proofs.Ytanaaleojpbfbaa.GfDivsW
open Go.RowKit Go.Proofs.Ytanaaleojpbfbaa.Mem Go.Proofs.Ytanaaleojpbfbaa.Gmul Go.Proofs.Ytanaaleojpbfbaa.Gf Go.Proofs.Ytanaaleojpbfbaa.PGfR Go.Proofs.YtanaaleojpbfbaaW.PrintWords
set_option linter.unusedVariables false
set_option linter.unusedSimpArgs false

set_option maxHeartbeats 2000000 in
set_option maxRecDepth 100000 in
theorem walk (a0 : Int) (a1 : Int) (a2 : Int) (w : World) (f0 : (Lit.int .u8 a0).wf = true) (f1 : (Lit.int .u8 a1).wf = true) (f2 : (Lit.int .i64 a2).wf = true) :
    Calls Try.prog 11 #[.int .u8 a0, .int .u8 a1, .int .i64 a2] w fun e w' => e = .returned (.bool true) ∧ Below w.heap.size w w' := by
  obtain ⟨a, rfl, ha⟩ := wf_u8 f0
  obtain ⟨b, rfl, hb⟩ := wf_u8 f1
  have rd := Lib.hid (ref_div a b ha hb)
  have rl := Lib.hid (ref_log a ha)
  have re := Lib.hid (ref_exp a2)
  go_enter Try.func11, Try.ntmps11
  go_wp2_with fail
  refine (wakes_calls _).mono ?_
  rintro e w1 ⟨rfl, h1, b1⟩
  go_wp2_with fail
  refine (div_calls _ true a b ha hb _ h1).mono ?_
  rintro e w2 ⟨rfl, h2, k2⟩
  go_wp2_with fail
  refine (trunnionref02_Div.calls 300 a b _ _ _ rd.out).mono ?_
  rintro e w3 ⟨rfl, b3⟩
  have h3 := Blk.below h2 b3 (Blk.lt h2)
  go_wp2_with fail
  refine (log_calls _ true a ha _ h3).mono ?_
  rintro e w4 ⟨rfl, h4, k4⟩
  go_wp2_with fail
  refine (trunnionref02_Log.calls 300 a _ _ _ rl.out).mono ?_
  rintro e w5 ⟨rfl, b5⟩
  have h5 := Blk.below h4 b5 (Blk.lt h4)
  go_wp2_with fail
  refine (exp_calls _ true a2 _ h5).mono ?_
  rintro e w6 ⟨rfl, h6, k6⟩
  go_wp2_with fail
  refine (trunnionref02_Exp.calls 300 a2 _ _ re.out).mono ?_
  rintro e w7 ⟨rfl, b7⟩
  go_wp2
  go_ret
  exact ⟨rfl, bt (bk (bt (bk (bt (bk b1 k2 (Nat.le_refl _)) b3) k4 (Nat.le_refl _)) b5) k6 (Nat.le_refl _)) b7⟩
end Go.Proofs.Ytanaaleojpbfbaa.GfDivsW
