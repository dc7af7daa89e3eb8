/- GfPowers: 2 to the power of a logarithm is the element; powers are multiplied by adding exponents; walked. -/
import Derived.Test.YtanaaleojpbfbaaGfWakes
namespace Go.Proofs.Ytanaaleojpbfbaa.GfPowersW
open Go.RowKit Go.Proofs.Ytanaaleojpbfbaa.Mem Go.Proofs.Ytanaaleojpbfbaa.Gmul Go.Proofs.Ytanaaleojpbfbaa.Gf Go.Proofs.Ytanaaleojpbfbaa.PGfR Go.Proofs.YtanaaleojpbfbaaW.PrintWords
set_option linter.unusedVariables false
set_option linter.unusedSimpArgs false

theorem ix_add (m n : Int) : pw (ix m + ix n) = pw (ix (m + n)) := by
  rw [← pw_mod (ix m + ix n), ← pw_mod (ix (m + n))]
  congr 1
  unfold ix; omega
theorem ix_255 (m : Int) : ix (m + 255) = ix m := by unfold ix; omega
theorem ix_lg (a : Nat) : ix (lg a) = lg a := by have := lg_lt a; unfold ix; omega
theorem lgOr_lt (a : Nat) : lgOr a < 255 := by unfold lgOr; split; decide; exact lg_lt a
theorem mask_bd (x : Int) : 0 ≤ bits .and .i64 x 65535 ∧ bits .and .i64 x 65535 ≤ 65535 := by
  simp only [bits]
  have h : ((BitVec.ofInt IntKind.i64.bits x &&& BitVec.ofInt IntKind.i64.bits 65535).toNat : Int) ≤ 65535 := by
    rw [BitVec.toNat_and]
    have : (BitVec.ofInt IntKind.i64.bits 65535).toNat = 65535 := by decide
    rw [this]
    have := Nat.and_le_right (n := (BitVec.ofInt IntKind.i64.bits x).toNat) (m := 65535)
    omega
  rw [IntKind.wrap_i64]
  omega
set_option maxHeartbeats 2000000 in
set_option maxRecDepth 100000 in
theorem walk (a0 : Int) (a1 : Int) (a2 : Int) (w : World) (f0 : (Lit.int .u8 a0).wf = true) (f1 : (Lit.int .i64 a1).wf = true) (f2 : (Lit.int .i64 a2).wf = true) :
    Calls Try.prog 10 #[.int .u8 a0, .int .i64 a1, .int .i64 a2] w fun e w' => e = .returned (.bool true) ∧ Below w.heap.size w w' := by
  obtain ⟨a, rfl, ha⟩ := wf_u8 f0
  obtain ⟨p, hp⟩ : ∃ p, bits .and .i64 a1 65535 = p := ⟨_, rfl⟩
  obtain ⟨q, hq⟩ : ∃ q, bits .and .i64 a2 65535 = q := ⟨_, rfl⟩
  have bp := mask_bd a1
  have bq := mask_bd a2
  rw [hp] at bp
  rw [hq] at bq
  obtain ⟨bp0, bp1⟩ := bp
  obtain ⟨bq0, bq1⟩ := bq
  have e1 : (((gmul (pw (ix (p - 32768))) (pw (ix (q - 32768))) : Nat) : Int) == ((pw (ix (p - 32768 + (q - 32768))) : Nat) : Int)) = true := by rw [pw_add, ix_add]; exact beq_self_eq_true _
  have e2 : (((pw (ix (p - 32768 + 255)) : Nat) : Int) == ((pw (ix (p - 32768)) : Nat) : Int)) = true := by rw [ix_255]; exact beq_self_eq_true _
  by_cases h0 : a = 0
  · have z1 : ((a : Int) == 0) = true := by rw [beq_iff_eq]; omega
    have z2 : (zerr a == 5) = true := by unfold zerr; rw [if_pos h0]; rfl
    clear h0
    go_enter Try.func10, Try.ntmps10
    go_wp2_with fail
    refine (wakes_calls _).mono ?_
    rintro e w1 ⟨rfl, h1, b1⟩
    go_wp2_with fail
    refine (log_calls _ true a ha _ h1).mono ?_
    rintro e w2 ⟨rfl, h2, k2⟩
    go_wp2_with fail
    refine (exp_calls _ true (p - 32768) _ h2).mono ?_
    rintro e w3 ⟨rfl, h3, k3⟩
    go_wp2_with fail
    refine (exp_calls _ true (q - 32768) _ h3).mono ?_
    rintro e w4 ⟨rfl, h4, k4⟩
    go_wp2_with fail
    refine (mul_calls _ true (pw (ix (p - 32768))) (pw (ix (q - 32768))) (pw_lt _) (pw_lt _) _ h4).mono ?_
    rintro e w5 ⟨rfl, h5, k5⟩
    go_wp2_with fail
    refine (exp_calls _ true (p - 32768 + (q - 32768)) _ h5).mono ?_
    rintro e w6 ⟨rfl, h6, k6⟩
    go_wp2_with fail
    refine (exp_calls _ true (p - 32768 + 255) _ h6).mono ?_
    rintro e w7 ⟨rfl, h7, k7⟩
    go_wp2_with fail
    refine (exp_calls _ true (p - 32768) _ h7).mono ?_
    rintro e w8 ⟨rfl, h8, k8⟩
    go_wp2
    go_ret
    exact ⟨rfl, (bk (bk (bk (bk (bk (bk (bk b1 k2 (Nat.le_refl _)) k3 (Nat.le_refl _)) k4 (Nat.le_refl _)) k5 (Nat.le_refl _)) k6 (Nat.le_refl _)) k7 (Nat.le_refl _)) k8 (Nat.le_refl _))⟩
  · have z1 : ((a : Int) == 0) = false := by rw [beq_eq_false_iff_ne]; omega
    have z3 : ((a : Int) != 0) = true := by rw [bne_iff_ne]; omega
    have z2 : (zerr a == 0) = true := by unfold zerr; rw [if_neg h0]; rfl
    have e3 : (((pw (ix ((lgOr a : Nat) : Int)) : Nat) : Int) == (a : Int)) = true := by unfold lgOr; rw [if_neg h0, ix_lg, pw_lg a h0 ha]; exact beq_self_eq_true _
    have hl := lgOr_lt a
    clear h0
    go_enter Try.func10, Try.ntmps10
    go_wp2_with fail
    refine (wakes_calls _).mono ?_
    rintro e w1 ⟨rfl, h1, b1⟩
    go_wp2_with fail
    refine (log_calls _ true a ha _ h1).mono ?_
    rintro e w2 ⟨rfl, h2, k2⟩
    go_wp2_with fail
    refine (exp_calls _ true ((lgOr a : Nat) : Int) _ h2).mono ?_
    rintro e w3 ⟨rfl, h3, k3⟩
    go_wp2_with fail
    refine (exp_calls _ true (p - 32768) _ h3).mono ?_
    rintro e w4 ⟨rfl, h4, k4⟩
    go_wp2_with fail
    refine (exp_calls _ true (q - 32768) _ h4).mono ?_
    rintro e w5 ⟨rfl, h5, k5⟩
    go_wp2_with fail
    refine (mul_calls _ true (pw (ix (p - 32768))) (pw (ix (q - 32768))) (pw_lt _) (pw_lt _) _ h5).mono ?_
    rintro e w6 ⟨rfl, h6, k6⟩
    go_wp2_with fail
    refine (exp_calls _ true (p - 32768 + (q - 32768)) _ h6).mono ?_
    rintro e w7 ⟨rfl, h7, k7⟩
    go_wp2_with fail
    refine (exp_calls _ true (p - 32768 + 255) _ h7).mono ?_
    rintro e w8 ⟨rfl, h8, k8⟩
    go_wp2_with fail
    refine (exp_calls _ true (p - 32768) _ h8).mono ?_
    rintro e w9 ⟨rfl, h9, k9⟩
    go_wp2
    go_ret
    exact ⟨rfl, (bk (bk (bk (bk (bk (bk (bk (bk b1 k2 (Nat.le_refl _)) k3 (Nat.le_refl _)) k4 (Nat.le_refl _)) k5 (Nat.le_refl _)) k6 (Nat.le_refl _)) k7 (Nat.le_refl _)) k8 (Nat.le_refl _)) k9 (Nat.le_refl _))⟩
end Go.Proofs.Ytanaaleojpbfbaa.GfPowersW
