/- GfField: products in any order, of sums sums; a quotient times the divisor is what was divided; walked. -/
import Derived.Test.YtanaaleojpbfbaaGfWakes
namespace Go.Proofs.Ytanaaleojpbfbaa.GfFieldW
open Go.RowKit Go.Proofs.Ytanaaleojpbfbaa.Mem Go.Proofs.Ytanaaleojpbfbaa.Gmul Go.Proofs.Ytanaaleojpbfbaa.Gf Go.Proofs.Ytanaaleojpbfbaa.PGfR Go.Proofs.YtanaaleojpbfbaaW.PrintWords
set_option linter.unusedVariables false
set_option linter.unusedSimpArgs false

set_option maxHeartbeats 2000000 in
set_option maxRecDepth 100000 in
theorem walk (a0 : Int) (a1 : Int) (a2 : Int) (w : World) (f0 : (Lit.int .u8 a0).wf = true) (f1 : (Lit.int .u8 a1).wf = true) (f2 : (Lit.int .u8 a2).wf = true) :
    Calls Try.prog 9 #[.int .u8 a0, .int .u8 a1, .int .u8 a2] w fun e w' => e = .returned (.bool true) ∧ Below w.heap.size w w' := by
  obtain ⟨a, rfl, ha⟩ := wf_u8 f0
  obtain ⟨b, rfl, hb⟩ := wf_u8 f1
  obtain ⟨c, rfl, hc⟩ := wf_u8 f2
  have e1 : (((gmul a (gmul b c) : Nat) : Int) == ((gmul (gmul a b) c : Nat) : Int)) = true := by rw [gmul_assoc a b c ha hb hc]; exact beq_self_eq_true _
  have e2 : (((gmul a b : Nat) : Int) == ((gmul b a : Nat) : Int)) = true := by rw [gmul_comm a b ha hb]; exact beq_self_eq_true _
  have x1 : bits .xor .u8 (b : Int) (c : Int) = ((b ^^^ c : Nat) : Int) := Bits.xor_u8 b c hb hc
  have x2 : bits .xor .u8 ((gmul a b : Nat) : Int) ((gmul a c : Nat) : Int) = ((gmul a (b ^^^ c) : Nat) : Int) := by rw [Bits.xor_u8 _ _ (gmul_lt _ _) (gmul_lt _ _), gmul_xor_right]
  have e4 : (((gmul a 1 : Nat) : Int) == (a : Int)) = true := by rw [gmul_one a ha]; exact beq_self_eq_true _
  have X1 := Lib.hid x1
  clear x1
  by_cases h0 : b = 0
  · have z1 : ((b : Int) == 0) = true := by rw [beq_iff_eq]; omega
    have z2 : (zerr b == 5) = true := by unfold zerr; rw [if_pos h0]; rfl
    clear h0
    have hu : ∀ q : Bool, (some undef = some (Value.bool q)) = False := fun q => by simp [undef]
    go_enter Try.func9, Try.ntmps9
    go_wp2_with fail
    refine (wakes_calls _).mono ?_
    rintro e w1 ⟨rfl, h1, b1⟩
    go_wp2_with fail
    refine (div_calls _ true a b ha hb _ h1).mono ?_
    rintro e w2 ⟨rfl, h2, k2⟩
    go_wp2_with fail
    refine (mul_calls _ true b c hb hc _ h2).mono ?_
    rintro e w3 ⟨rfl, h3, k3⟩
    go_wp2_with fail
    refine (mul_calls _ true a (gmul b c) ha (gmul_lt _ _) _ h3).mono ?_
    rintro e w4 ⟨rfl, h4, k4⟩
    go_wp2_with fail
    refine (mul_calls _ true a b ha hb _ h4).mono ?_
    rintro e w5 ⟨rfl, h5, k5⟩
    go_wp2_with fail
    refine (mul_calls _ true (gmul a b) c (gmul_lt _ _) hc _ h5).mono ?_
    rintro e w6 ⟨rfl, h6, k6⟩
    go_wp2_with fail
    refine (mul_calls _ true a b ha hb _ h6).mono ?_
    rintro e w7 ⟨rfl, h7, k7⟩
    go_wp2_with fail
    refine (mul_calls _ true b a hb ha _ h7).mono ?_
    rintro e w8 ⟨rfl, h8, k8⟩
    go_wp2_with fail
    rw [X1.out]
    refine (mul_calls _ true a (b ^^^ c) ha (Nat.xor_lt_two_pow (n := 8) hb hc) _ h8).mono ?_
    rintro e w9 ⟨rfl, h9, k9⟩
    go_wp2_with fail
    refine (mul_calls _ true a b ha hb _ h9).mono ?_
    rintro e w10 ⟨rfl, h10, k10⟩
    go_wp2_with fail
    refine (mul_calls _ true a c ha hc _ h10).mono ?_
    rintro e w11 ⟨rfl, h11, k11⟩
    go_wp2_with fail
    refine (mul_calls _ true a 1 ha (by decide) _ h11).mono ?_
    rintro e w12 ⟨rfl, h12, k12⟩
    go_wp2
    go_ret
    exact ⟨rfl, (bk (bk (bk (bk (bk (bk (bk (bk (bk (bk (bk b1 k2 (Nat.le_refl _)) k3 (Nat.le_refl _)) k4 (Nat.le_refl _)) k5 (Nat.le_refl _)) k6 (Nat.le_refl _)) k7 (Nat.le_refl _)) k8 (Nat.le_refl _)) k9 (Nat.le_refl _)) k10 (Nat.le_refl _)) k11 (Nat.le_refl _)) k12 (Nat.le_refl _))⟩
  · have z1 : ((b : Int) == 0) = false := by rw [beq_eq_false_iff_ne]; omega
    have z3 : ((b : Int) != 0) = true := by rw [bne_iff_ne]; omega
    have z2 : (zerr b == 0) = true := by unfold zerr; rw [if_neg h0]; rfl
    have e5 : (((gmul (quo a b) b : Nat) : Int) == (a : Int)) = true := by unfold quo; rw [if_neg h0, gmul_gdiv a b ha hb h0]; exact beq_self_eq_true _
    have hq : quo a b < 256 := by unfold quo; rw [if_neg h0]; exact gdiv_lt _ _
    clear h0
    go_enter Try.func9, Try.ntmps9
    go_wp2_with fail
    refine (wakes_calls _).mono ?_
    rintro e w1 ⟨rfl, h1, b1⟩
    go_wp2_with fail
    refine (div_calls _ true a b ha hb _ h1).mono ?_
    rintro e w2 ⟨rfl, h2, k2⟩
    go_wp2_with fail
    refine (mul_calls _ true b c hb hc _ h2).mono ?_
    rintro e w3 ⟨rfl, h3, k3⟩
    go_wp2_with fail
    refine (mul_calls _ true a (gmul b c) ha (gmul_lt _ _) _ h3).mono ?_
    rintro e w4 ⟨rfl, h4, k4⟩
    go_wp2_with fail
    refine (mul_calls _ true a b ha hb _ h4).mono ?_
    rintro e w5 ⟨rfl, h5, k5⟩
    go_wp2_with fail
    refine (mul_calls _ true (gmul a b) c (gmul_lt _ _) hc _ h5).mono ?_
    rintro e w6 ⟨rfl, h6, k6⟩
    go_wp2_with fail
    refine (mul_calls _ true a b ha hb _ h6).mono ?_
    rintro e w7 ⟨rfl, h7, k7⟩
    go_wp2_with fail
    refine (mul_calls _ true b a hb ha _ h7).mono ?_
    rintro e w8 ⟨rfl, h8, k8⟩
    go_wp2_with fail
    rw [X1.out]
    refine (mul_calls _ true a (b ^^^ c) ha (Nat.xor_lt_two_pow (n := 8) hb hc) _ h8).mono ?_
    rintro e w9 ⟨rfl, h9, k9⟩
    go_wp2_with fail
    refine (mul_calls _ true a b ha hb _ h9).mono ?_
    rintro e w10 ⟨rfl, h10, k10⟩
    go_wp2_with fail
    refine (mul_calls _ true a c ha hc _ h10).mono ?_
    rintro e w11 ⟨rfl, h11, k11⟩
    go_wp2_with fail
    refine (mul_calls _ true a 1 ha (by decide) _ h11).mono ?_
    rintro e w12 ⟨rfl, h12, k12⟩
    go_wp2_with fail
    refine (mul_calls _ true (quo a b) b hq hb _ h12).mono ?_
    rintro e w13 ⟨rfl, h13, k13⟩
    go_wp2
    go_ret
    exact ⟨rfl, (bk (bk (bk (bk (bk (bk (bk (bk (bk (bk (bk (bk b1 k2 (Nat.le_refl _)) k3 (Nat.le_refl _)) k4 (Nat.le_refl _)) k5 (Nat.le_refl _)) k6 (Nat.le_refl _)) k7 (Nat.le_refl _)) k8 (Nat.le_refl _)) k9 (Nat.le_refl _)) k10 (Nat.le_refl _)) k11 (Nat.le_refl _)) k12 (Nat.le_refl _)) k13 (Nat.le_refl _))⟩
end Go.Proofs.Ytanaaleojpbfbaa.GfFieldW
