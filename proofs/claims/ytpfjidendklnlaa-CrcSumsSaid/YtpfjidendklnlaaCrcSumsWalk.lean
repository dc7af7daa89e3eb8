/- CrcSums: the sum of every text, without and by tables, and of more behind every sum, is the document's; walked. -/
import Derived.Test.YtpfjidendklnlaaCrcWakes
namespace Go.Proofs.Ytpfjidendklnlaa.CrcSumsW
open Go.RowKit Go.Proofs.Ytpfjidendklnlaa.Mem Go.Proofs.Ytpfjidendklnlaa.CrcA Go.Proofs.Ytpfjidendklnlaa.CrcS Go.Proofs.Ytpfjidendklnlaa.Crc
open Go.Proofs.YtpfjidendklnlaaW.PrintWords hiding bt
set_option linter.unusedVariables false
set_option linter.unusedSimpArgs false

set_option maxHeartbeats 2000000 in
set_option maxRecDepth 100000 in
theorem walk (a0 : ByteArray) (a1 : Int) (w : World) (f0 : a0.size ≤ maxLen) (f1 : (Lit.int .u32 a1).wf = true) :
    Calls Try.prog 3 #[.string a0, .int .u32 a1] w fun e w' => e = .returned (.bool true) ∧ Below w.heap.size w w' := by
  obtain ⟨c, rfl, hc⟩ := wf_u32 f1
  have hs : a0.size ≤ 9223372036854775807 := by unfold maxLen at f0; omega
  clear f0 f1
  go_enter Try.func3, Try.ntmps3
  go_wp2_with fail
  refine (wakes_calls _).mono ?_
  rintro e w1 ⟨rfl, h1, b1⟩
  by_cases h5 : 500 < a0.size
  · have d5 : decide ((500 : Int) < (a0.size : Int)) = true := decide_eq_true (by omega)
    go_wp2_with fail
    obtain ⟨t, htt⟩ : ∃ t, t = a0.extract 0 500 := ⟨_, rfl⟩
    rw [← htt]
    have ht : t.size ≤ 9223372036854775807 := by rw [htt, ByteArray.size_extract]; omega
    clear htt
    refine (CrcS.slow_calls t ht _).mono ?_
    rintro e w2 ⟨rfl, ⟨n2, rfl⟩⟩
    go_wp2_with fail
    refine (CrcS.sum_calls t ht _).mono ?_
    rintro e w3 ⟨rfl, ⟨n3, rfl⟩⟩
    go_wp2_with fail
    refine (Crc.sum_calls _ true t ht _ (h1.drewN (n2 + n3))).mono ?_
    rintro e w4 ⟨rfl, h4, k4⟩
    go_wp2_with fail
    refine (CrcS.sum_calls t ht _).mono ?_
    rintro e w5 ⟨rfl, ⟨n5, rfl⟩⟩
    go_wp2_with fail
    refine (Crc.more_calls _ true c t hc ht _ (h4.drewN n5)).mono ?_
    rintro e w6 ⟨rfl, h6, k6⟩
    go_wp2_with fail
    refine (CrcS.more_calls c t hc ht _).mono ?_
    rintro e w7 ⟨rfl, ⟨n7, rfl⟩⟩
    go_wp2
    go_ret
    exact ⟨rfl, bd (bk (bd (bk (bd b1 _) k4 (Nat.le_refl _)) _) k6 (Nat.le_refl _)) _⟩
  · have d5 : decide ((500 : Int) < (a0.size : Int)) = false := decide_eq_false (by omega)
    go_wp2_with fail
    refine (CrcS.slow_calls a0 hs _).mono ?_
    rintro e w2 ⟨rfl, ⟨n2, rfl⟩⟩
    go_wp2_with fail
    refine (CrcS.sum_calls a0 hs _).mono ?_
    rintro e w3 ⟨rfl, ⟨n3, rfl⟩⟩
    go_wp2_with fail
    refine (Crc.sum_calls _ true a0 hs _ (h1.drewN (n2 + n3))).mono ?_
    rintro e w4 ⟨rfl, h4, k4⟩
    go_wp2_with fail
    refine (CrcS.sum_calls a0 hs _).mono ?_
    rintro e w5 ⟨rfl, ⟨n5, rfl⟩⟩
    go_wp2_with fail
    refine (Crc.more_calls _ true c a0 hc hs _ (h4.drewN n5)).mono ?_
    rintro e w6 ⟨rfl, h6, k6⟩
    go_wp2_with fail
    refine (CrcS.more_calls c a0 hc hs _).mono ?_
    rintro e w7 ⟨rfl, ⟨n7, rfl⟩⟩
    go_wp2
    go_ret
    exact ⟨rfl, bd (bk (bd (bk (bd b1 _) k4 (Nat.le_refl _)) _) k6 (Nat.le_refl _)) _⟩
end Go.Proofs.Ytpfjidendklnlaa.CrcSumsW
