/- GfMuls: the product of every two elements, without and by tables, is the document's; walked. -/
import Derived.Test.YtanaaleojpbfbaaGfWakes
namespace Go.Proofs.Ytanaaleojpbfbaa.GfMulsW
open Go.RowKit Go.Proofs.Ytanaaleojpbfbaa.Mem Go.Proofs.Ytanaaleojpbfbaa.Gmul Go.Proofs.Ytanaaleojpbfbaa.Gf Go.Proofs.Ytanaaleojpbfbaa.PGfR Go.Proofs.YtanaaleojpbfbaaW.PrintWords
set_option linter.unusedVariables false
set_option linter.unusedSimpArgs false

set_option maxHeartbeats 2000000 in
set_option maxRecDepth 100000 in
theorem walk (a0 : Int) (a1 : Int) (w : World) (f0 : (Lit.int .u8 a0).wf = true) (f1 : (Lit.int .u8 a1).wf = true) :
    Calls Try.prog 4 #[.int .u8 a0, .int .u8 a1] w fun e w' => e = .returned (.bool true) ∧ Below w.heap.size w w' := by
  obtain ⟨a, rfl, ha⟩ := wf_u8 f0
  obtain ⟨b, rfl, hb⟩ := wf_u8 f1
  go_enter Try.func4, Try.ntmps4
  go_wp2_with fail
  refine (wakes_calls _).mono ?_
  rintro e w1 ⟨rfl, h1, b1⟩
  go_wp2_with fail
  refine (Prod.product_calls a b ha hb _).mono ?_
  rintro e w2 ⟨rfl, ⟨n2, rfl⟩⟩
  go_wp2_with fail
  refine (RefMul.mul_calls a b ha hb _).mono ?_
  rintro e w3 ⟨rfl, b3⟩
  have h3 := Blk.below (Blk.drewN h1 n2) b3 (Blk.lt h1)
  go_wp2_with fail
  refine (mul_calls _ true a b ha hb _ h3).mono ?_
  rintro e w4 ⟨rfl, h4, k4⟩
  go_wp2_with fail
  refine (RefMul.mul_calls a b ha hb _).mono ?_
  rintro e w5 ⟨rfl, b5⟩
  go_wp2
  go_ret
  exact ⟨rfl, bt (bk (bt (bd b1 _) b3) k4 (Nat.le_refl _)) b5⟩
end Go.Proofs.Ytanaaleojpbfbaa.GfMulsW
