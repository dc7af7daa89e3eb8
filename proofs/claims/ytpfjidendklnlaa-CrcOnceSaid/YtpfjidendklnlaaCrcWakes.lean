/- What the document fixes of sums: walked. -/
import Derived.Test.YtpfjidendklnlaaCrcOps
namespace Go.Proofs.Ytpfjidendklnlaa.Crc
open Go.RowKit Go.Proofs.Ytpfjidendklnlaa.Mem Go.Proofs.Ytpfjidendklnlaa.CrcA Go.Proofs.Ytpfjidendklnlaa.CrcS Go.Proofs.Ytpfjidendklnlaa.Bits
open Go.Proofs.YtpfjidendklnlaaW.PrintWords hiding bt
set_option linter.unusedVariables false
set_option linter.unusedSimpArgs false

set_option maxHeartbeats 1000000 in
set_option maxRecDepth 100000 in
theorem wakes_calls (w : World) : Calls Try.prog 13 #[] w fun e w' => e = .returned (.tuple #[.pointer (some ⟨w.heap.size, 0, none⟩), .bool true]) ∧ (Tab true w' w.heap.size ∧ Below w.heap.size w w') := by
  have m1 : CrcA.sum (by8 ⟨#[49, 50, 51, 52, 53, 54, 55, 56, 57]⟩) = 3421780262 := by decide +kernel
  have m2 : CrcA.sum (by8 ⟨#[49, 50, 51, 52]⟩) = 2615402659 := by decide +kernel
  have m3 : CrcA.sum (by8 ⟨#[53, 54, 55, 56, 57]⟩) = 320708720 := by decide +kernel
  have m4 : joinN 2615402659 320708720 5 = 3421780262 := by decide +kernel
  have M := Lib.hid (And.intro m1 (And.intro m2 (And.intro m3 m4)))
  clear m1 m2 m3 m4
  go_enter Try.func13, Try.ntmps13
  go_wp2_with fail
  refine (new_calls _).mono ?_
  rintro e w1 ⟨rfl, h1, b1⟩
  go_wp2_with fail
  refine (made_calls _ false _ h1).mono ?_
  rintro e w1' ⟨rfl, rfl⟩
  go_wp2_with fail
  refine (sum_calls _ false _ (by decide) _ h1).mono ?_
  rw [M.out.1]
  rintro e w2 ⟨rfl, h2, k2⟩
  go_wp2_with fail
  refine (made_calls _ true _ h2).mono ?_
  rintro e w2' ⟨rfl, rfl⟩
  go_wp2_with fail
  refine (slow_calls _ (by decide) _).mono ?_
  rw [M.out.1]
  rintro e w3 ⟨rfl, ⟨n3, rfl⟩⟩
  go_wp2_with fail
  refine (sum_calls _ true _ (by decide) _ (h2.drewN n3)).mono ?_
  rw [M.out.2.1]
  rintro e w4 ⟨rfl, h4, k4⟩
  go_wp2_with fail
  refine (sum_calls _ true _ (by decide) _ h4).mono ?_
  rw [M.out.2.2.1]
  rintro e w5 ⟨rfl, h5, k5⟩
  go_wp2_with fail
  refine (join_calls _ true 2615402659 320708720 5 (by decide) (by decide) (by decide) _ h5).mono ?_
  rw [M.out.2.2.2]
  rintro e w6 ⟨rfl, h6, k6⟩
  go_wp2
  go_ret2
  exact ⟨rfl, h6, bk (bk (bk (bd (bk b1 k2 (Nat.le_refl _)) _) k4 (Nat.le_refl _)) k5 (Nat.le_refl _)) k6 (Nat.le_refl _)⟩
end Go.Proofs.Ytpfjidendklnlaa.Crc
