/- A text as one great number: its register; bits turned in it. -/
import Derived.Test.YtpfjidendklnlaaCrcAlg
namespace Go.Proofs.Ytpfjidendklnlaa.CrcA
set_option linter.unusedVariables false

def num : List Nat → Nat
  | [] => 0
  | b :: l => b ^^^ (2 ^ 8 * num l)
theorem reg_num (l : List Nat) : ∀ r, reg r l = stpN (8 * l.length) (r ^^^ num l) := by
  induction l with
  | nil => intro r; show r = stpN 0 (r ^^^ 0); simp [stpN]
  | cons b l ih =>
    intro r
    show reg (byt r b) l = stpN (8 * (l.length + 1)) (r ^^^ (b ^^^ (2 ^ 8 * num l)))
    rw [ih, show 8 * (l.length + 1) = 8 + 8 * l.length by omega, stpN_add, show r ^^^ (b ^^^ (2 ^ 8 * num l)) = (r ^^^ b) ^^^ (2 ^ 8 * num l) by rw [Nat.xor_assoc], stpN_xor 8, stpN_shift, stpN_xor (8 * l.length) (byt r b), stpN_xor (8 * l.length) (stpN 8 (r ^^^ b))]
    rfl
theorem mul_pow_xor (a b k : Nat) : 2 ^ k * (a ^^^ b) = 2 ^ k * a ^^^ 2 ^ k * b := by
  have h := Nat.shiftLeft_xor_distrib (a := a) (b := b) (i := k)
  simp only [Nat.shiftLeft_eq] at h
  rw [Nat.mul_comm, h, Nat.mul_comm a, Nat.mul_comm b]
/-- A bit turned. -/
theorem num_set (t : Nat) : ∀ (l : List Nat) (j v : Nat), l[j]? = some v → num (l.set j (v ^^^ 2 ^ t)) = num l ^^^ 2 ^ (8 * j + t)
  | [], j, v, h => by simp at h
  | b :: l, 0, v, h => by
    simp only [List.getElem?_cons_zero, Option.some.injEq] at h
    subst h
    show (b ^^^ 2 ^ t) ^^^ (2 ^ 8 * num l) = (b ^^^ (2 ^ 8 * num l)) ^^^ 2 ^ (8 * 0 + t)
    rw [show 8 * 0 + t = t by omega]
    ac_rfl
  | b :: l, j + 1, v, h => by
    simp only [List.getElem?_cons_succ] at h
    show b ^^^ (2 ^ 8 * num (l.set j (v ^^^ 2 ^ t))) = (b ^^^ (2 ^ 8 * num l)) ^^^ 2 ^ (8 * (j + 1) + t)
    rw [num_set t l j v h, mul_pow_xor, ← Nat.pow_add, show 8 + (8 * j + t) = 8 * (j + 1) + t by omega, Nat.xor_assoc]
theorem mod_next_xor (y n : Nat) : y % 2 ^ (n + 1) = (y % 2 ^ n) ^^^ (if y.testBit n then 2 ^ n else 0) := by
  apply Nat.eq_of_testBit_eq
  intro i
  rw [Nat.testBit_xor, Nat.testBit_mod_two_pow, Nat.testBit_mod_two_pow]
  have e2 : (if y.testBit n then 2 ^ n else 0 : Nat).testBit i = (decide (n = i) && y.testBit i) := by
    by_cases h : n = i
    · subst h; cases hr : y.testBit n <;> simp
    · cases y.testBit n
      · simp [h]
      · simp only [if_true, Nat.testBit_two_pow]; simp [h]
  rw [e2]
  by_cases h1 : i = n
  · subst h1; simp
  · by_cases h2 : i < n
    · have : i < n + 1 := by omega
      simp [h2, this, Ne.symm h1]
    · have : ¬ i < n + 1 := by omega
      simp [h2, this, Ne.symm h1]
/-- Bits turned within 32 places: the sum is another one, unless none is. -/
theorem burst (l l' : List Nat) (y k : Nat) (hl : l'.length = l.length) (hk : k ≤ 8 * l.length) (hy : y < 4294967296) (h : num l' = num l ^^^ (2 ^ k * y)) : CrcA.sum l' = CrcA.sum l ↔ y = 0 := by
  have e : reg full l' = reg full l ^^^ stpN (8 * l.length - k) y := by
    rw [reg_num, reg_num, hl, h, show full ^^^ (num l ^^^ (2 ^ k * y)) = (full ^^^ num l) ^^^ (2 ^ k * y) by rw [Nat.xor_assoc], stpN_xor]
    congr 1
    have : 8 * l.length = k + (8 * l.length - k) := by omega
    rw [this, stpN_add, stpN_shift]
    congr 1; omega
  unfold CrcA.sum
  rw [e]
  constructor
  · intro hh
    have h2 : reg full l ^^^ stpN (8 * l.length - k) y = reg full l := by
      have := congrArg (· ^^^ full) hh
      simpa [Nat.xor_assoc] using this
    have h3 : stpN (8 * l.length - k) y = 0 := by
      have := congrArg (reg full l ^^^ ·) h2
      simpa [← Nat.xor_assoc] using this
    exact stpN_eq_zero _ y hy h3
  · rintro rfl
    rw [stpN_zero, Nat.xor_zero]
end Go.Proofs.Ytpfjidendklnlaa.CrcA
