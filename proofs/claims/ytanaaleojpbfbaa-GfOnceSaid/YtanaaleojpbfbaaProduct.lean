/- gf.Product: the printed function is gmul. -/
import Derived.Test.YtanaaleojpbfbaaGfAlg
import Derived.Test.YtanaaleojpbfbaaBits
import Derived.Test.YtanaaleojpbfbaaPGfLx1
namespace Go.Proofs.Ytanaaleojpbfbaa.Prod
open Go.RowKit Go.Proofs.Ytanaaleojpbfbaa.Gmul Go.Proofs.Ytanaaleojpbfbaa.Bits Go.Proofs.Ytanaaleojpbfbaa.PGfL Go.Proofs.YtanaaleojpbfbaaW.PrintWords Go.Proofs.YtanaaleojpbfbaaW.PrintMore

theorem twice_byte : ∀ x : Fin 256, lanes_Twice.f (x.val : Int) = some ((gmul x.val 2 : Nat) : Int) := by decide +kernel
theorem gmul_half (x b : Nat) (hx : x < 256) (hb : b < 256) : gmul x b = (if b % 2 = 1 then x else 0) ^^^ gmul (gmul x 2) (b / 2) := by
  have e : ∀ b : Nat, (if b % 2 = 1 then x else 0) = (if b.testBit 0 then x else 0) := fun b => by simp [Nat.testBit_zero]
  rw [e]
  refine linear_eq (fun b => gmul x b) (fun b => (if b.testBit 0 then x else 0) ^^^ gmul (gmul x 2) (b / 2)) (fun y z => gmul_xor_right x y z) (fun y z => ?_) (fun j => ?_) b hb
  · have h2 : (y ^^^ z) / 2 = y / 2 ^^^ z / 2 := by
      have := Nat.shiftRight_xor_distrib (a := y) (b := z) (i := 1)
      simpa [Nat.shiftRight_eq_div_pow] using this
    simp only [h2, gmul_xor_right, Nat.testBit_xor]
    cases y.testBit 0 <;> cases z.testBit 0 <;> simp
    · ac_rfl
    · ac_rfl
    · rw [show x ^^^ gmul (gmul x 2) (y / 2) ^^^ (x ^^^ gmul (gmul x 2) (z / 2)) = (x ^^^ x) ^^^ (gmul (gmul x 2) (y / 2) ^^^ gmul (gmul x 2) (z / 2)) by ac_rfl]
      simp
  · refine linear_eq (fun x => gmul x (2 ^ j.val)) (fun x => (if (2 ^ j.val).testBit 0 then x else 0) ^^^ gmul (gmul x 2) (2 ^ j.val / 2)) (fun y z => gmul_xor_left y z _) (fun y z => ?_) (fun i => ?_) x hx
    · simp only [gmul_xor_left]
      cases (2 ^ j.val).testBit 0 <;> simp
      ac_rfl
    · exact (by decide +kernel : ∀ i j : Fin 8, gmul (2 ^ i.val) (2 ^ j.val) = (if (2 ^ j.val).testBit 0 then 2 ^ i.val else 0) ^^^ gmul (gmul (2 ^ i.val) 2) (2 ^ j.val / 2)) i j

theorem times_loop (n : Nat) : ∀ (x b out : Nat), n ≤ 8 → x < 256 → b < 2 ^ n → out < 256 → lanes_Times.l0 (n + 1) x b out = some ((out ^^^ gmul x b : Nat) : Int) := by
  induction n with
  | zero =>
    intro x b out _ hx hb ho
    have : b = 0 := by simpa using hb
    subst this
    rw [lanes_Times.l0, if_pos (by rfl), gmul_zero_right, Nat.xor_zero]
  | succ n ih =>
    intro x b out hn hx hb ho
    have hb8 : b < 256 := Nat.lt_of_lt_of_le hb (Nat.le_trans (Nat.pow_le_pow_right (by decide) hn) (by decide))
    rw [lanes_Times.l0]
    by_cases h0 : b = 0
    · subst h0
      rw [if_pos (by rfl), gmul_zero_right, Nat.xor_zero]
    · rw [if_neg (by omega), odd_u8 b hb8, twice_byte ⟨x, hx⟩]
      simp only [Option.bind_some]
      have hd : ((b : Int) / 2) = ((b / 2 : Nat) : Int) := by omega
      have hlt : b / 2 < 2 ^ n := by rw [Nat.pow_succ] at hb; omega
      rw [hd, xor_u64 out x (by omega) (by omega), gmul_half x b hx hb8]
      by_cases ho1 : b % 2 = 1
      · rw [if_pos (by omega), if_pos ho1, ih _ _ _ (by omega) (gmul_lt _ _) hlt (Nat.xor_lt_two_pow (n := 8) ho hx), Nat.xor_assoc]
      · rw [if_neg (by omega), if_neg ho1, ih _ _ _ (by omega) (gmul_lt _ _) hlt ho, Nat.zero_xor]

theorem product_eq (a b : Nat) (ha : a < 256) (hb : b < 256) : gf_Product.f 9 a b = some ((gmul a b : Nat) : Int) := by
  unfold gf_Product.f lanes_Times.f
  rw [wrap_nat .u64 rfl a (Nat.lt_trans ha (by decide))]
  have h := times_loop 8 a b 0 (by decide) ha hb (by decide)
  rw [Nat.zero_xor] at h
  rw [show (0 : Int) = ((0 : Nat) : Int) from rfl, h]
  simp only [Option.bind_some]
  have := gmul_lt a b
  congr 1
  omega

/-- The product walked. -/
theorem product_calls (a b : Nat) (ha : a < 256) (hb : b < 256) (w : World) :
    Calls Try.prog 22 #[.int .u8 a, .int .u8 b] w fun e w' => e = .returned (.int .u8 (gmul a b)) ∧ Drawn0 w w' :=
  gf_Product.calls 9 a b _ w (product_eq a b ha hb)
end Go.Proofs.Ytanaaleojpbfbaa.Prod
