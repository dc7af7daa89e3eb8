/- What the document fixes of a field: walked. -/
import Derived.Test.YtanaaleojpbfbaaGfPure
namespace Go.Proofs.Ytanaaleojpbfbaa.Gf
open Go.RowKit Go.Proofs.Ytanaaleojpbfbaa.Mem Go.Proofs.Ytanaaleojpbfbaa.Gmul Go.Proofs.YtanaaleojpbfbaaW.PrintWords
set_option linter.unusedVariables false
set_option linter.unusedSimpArgs false

set_option maxHeartbeats 1000000 in
set_option maxRecDepth 100000 in
theorem wakes_calls (w : World) : Calls Try.prog 21 #[] w fun e w' => e = .returned (.tuple #[.pointer (some ⟨w.heap.size, 0, none⟩), .bool true]) ∧ (Fld true w' w.heap.size ∧ Below w.heap.size w w') := by
  have m1 : gmul 3 7 = 9 := by decide +kernel
  have m2 : gmul 128 2 = 29 := by decide +kernel
  have M := Lib.hid (And.intro m1 m2)
  clear m1 m2
  go_enter Try.func21, Try.ntmps21
  go_wp2_with fail
  refine (new_calls _).mono ?_
  rintro e w1 ⟨rfl, h1, b1⟩
  go_wp2_with fail
  refine (made_calls _ false _ h1).mono ?_
  rintro e w1' ⟨rfl, rfl⟩
  go_wp2_with fail
  refine (mul_calls _ false 3 7 (by decide) (by decide) _ h1).mono ?_
  rw [M.out.1]
  rintro e w2 ⟨rfl, h2, k2⟩
  go_wp2_with fail
  refine (made_calls _ true _ h2).mono ?_
  rintro e w2' ⟨rfl, rfl⟩
  go_wp2_with fail
  refine (Prod.product_calls 128 2 (by decide) (by decide) _).mono ?_
  rw [M.out.2]
  rintro e w3 ⟨rfl, ⟨n3, rfl⟩⟩
  go_wp2
  go_ret2
  exact ⟨rfl, h2, bd (bk b1 k2 (Nat.le_refl _)) _⟩
end Go.Proofs.Ytanaaleojpbfbaa.Gf
