/- Sums of 32 bits by numbers alone: the register is linear; a step is undone by no other; joining, and bursts. -/
import Derived.Below
namespace Go.Proofs.Ytmpbohbecidkhaa.CrcA
set_option linter.unusedVariables false

def poly : Nat := 0xedb88320
def full : Nat := 0xffffffff
/-- The register behind a bit. -/
def stp (r : Nat) : Nat := (r / 2) ^^^ (if r.testBit 0 then poly else 0)
def stpN : Nat → Nat → Nat
  | 0, r => r
  | n + 1, r => stpN n (stp r)
/-- Behind a byte. -/
def byt (r b : Nat) : Nat := stpN 8 (r ^^^ b)
def reg (r : Nat) (l : List Nat) : Nat := l.foldl byt r
def sum (l : List Nat) : Nat := reg full l ^^^ full

theorem half_xor (a b : Nat) : (a ^^^ b) / 2 = a / 2 ^^^ b / 2 := by
  have := Nat.shiftRight_xor_distrib (a := a) (b := b) (i := 1)
  simpa [Nat.shiftRight_eq_div_pow] using this
theorem stp_xor (a b : Nat) : stp (a ^^^ b) = stp a ^^^ stp b := by
  unfold stp
  rw [half_xor, Nat.testBit_xor]
  cases a.testBit 0 <;> cases b.testBit 0 <;> simp
  · ac_rfl
  · ac_rfl
  · rw [show a / 2 ^^^ poly ^^^ (b / 2 ^^^ poly) = (a / 2 ^^^ b / 2) ^^^ (poly ^^^ poly) by ac_rfl]; simp
theorem stpN_xor (n : Nat) : ∀ a b, stpN n (a ^^^ b) = stpN n a ^^^ stpN n b := by
  induction n with
  | zero => intro a b; rfl
  | succ n ih => intro a b; simp only [stpN, stp_xor, ih]
theorem stpN_add (m n r : Nat) : stpN (m + n) r = stpN n (stpN m r) := by
  induction m generalizing r with
  | zero => simp [stpN]
  | succ m ih => rw [show m + 1 + n = (m + n) + 1 by omega]; simp only [stpN]; exact ih _
theorem stpN_zero (n : Nat) : stpN n 0 = 0 := by have := stpN_xor n 0 0; simpa using this
theorem stp_lt (r : Nat) (h : r < 4294967296) : stp r < 4294967296 := by
  unfold stp
  refine Nat.xor_lt_two_pow (n := 32) (by omega) ?_
  split
  · decide
  · decide
theorem stpN_lt (n : Nat) : ∀ r, r < 4294967296 → stpN n r < 4294967296 := by
  induction n with
  | zero => intro r h; exact h
  | succ n ih => intro r h; exact ih _ (stp_lt r h)
theorem stp_even (x : Nat) : stp (2 * x) = x := by
  unfold stp
  have : (2 * x).testBit 0 = false := by simp [Nat.testBit_zero]
  rw [this]; simp
theorem stpN_shift (n : Nat) : ∀ x, stpN n (2 ^ n * x) = x := by
  induction n with
  | zero => intro x; simp [stpN]
  | succ n ih => intro x; rw [Nat.pow_succ, show 2 ^ n * 2 * x = 2 * (2 ^ n * x) by rw [Nat.mul_comm (2 ^ n) 2, Nat.mul_assoc], stpN, stp_even, ih]
/-- A step is undone by no other. -/
theorem stp_zero (r : Nat) (h : r < 4294967296) (h0 : stp r = 0) : r = 0 := by
  unfold stp at h0
  by_cases hb : r.testBit 0
  · exfalso
    rw [if_pos hb] at h0
    have h1 : r / 2 = poly := by
      have := congrArg (· ^^^ poly) h0
      simpa [Nat.xor_assoc] using this
    unfold poly at h1
    omega
  · rw [if_neg hb] at h0
    simp only [Nat.xor_zero] at h0
    have : r % 2 = 0 := by
      rw [Nat.testBit_zero] at hb
      simp at hb; omega
    omega
theorem stpN_eq_zero (n : Nat) : ∀ r, r < 4294967296 → stpN n r = 0 → r = 0 := by
  induction n with
  | zero => intro r _ h; exact h
  | succ n ih => intro r h h0; exact stp_zero r h (ih _ (stp_lt r h) h0)

theorem byt_lt (r b : Nat) (hr : r < 4294967296) (hb : b < 256) : byt r b < 4294967296 := stpN_lt 8 _ (Nat.xor_lt_two_pow (n := 32) hr (by omega))
theorem reg_lt (l : List Nat) : ∀ r, r < 4294967296 → (∀ b ∈ l, b < 256) → reg r l < 4294967296 := by
  induction l with
  | nil => intro r h _; exact h
  | cons b l ih => intro r h hb; exact ih _ (byt_lt r b h (hb b (by simp))) (fun x hx => hb x (by simp [hx]))
theorem sum_lt (l : List Nat) (hb : ∀ b ∈ l, b < 256) : sum l < 4294967296 := Nat.xor_lt_two_pow (n := 32) (reg_lt l _ (by decide) hb) (by decide)
theorem reg_append (r : Nat) (l m : List Nat) : reg r (l ++ m) = reg (reg r l) m := by unfold reg; rw [List.foldl_append]
/-- What a register adds to what stands behind: through as many noughts. -/
theorem reg_xor (l : List Nat) : ∀ x y, reg (x ^^^ y) l = reg x l ^^^ stpN (8 * l.length) y := by
  induction l with
  | nil => intro x y; simp [reg, stpN]
  | cons b l ih =>
    intro x y
    show reg (byt (x ^^^ y) b) l = reg (byt x b) l ^^^ stpN (8 * (l.length + 1)) y
    have e : byt (x ^^^ y) b = byt x b ^^^ stpN 8 y := by
      unfold byt
      rw [show x ^^^ y ^^^ b = (x ^^^ b) ^^^ y by ac_rfl, stpN_xor]
    rw [e, ih, show 8 * (l.length + 1) = 8 + 8 * l.length by omega, stpN_add]
theorem xor_cancel (a b : Nat) : a ^^^ b ^^^ b = a := by rw [Nat.xor_assoc, Nat.xor_self, Nat.xor_zero]
/-- Going on. -/
theorem sum_more (l m : List Nat) : reg (sum l ^^^ full) m ^^^ full = sum (l ++ m) := by
  unfold sum
  rw [xor_cancel, reg_append]
/-- Joining. -/
theorem sum_join (l m : List Nat) : stpN (8 * m.length) (sum l) ^^^ sum m = sum (l ++ m) := by
  have h := reg_xor m full (sum l)
  have e : full ^^^ sum l = reg full l := by unfold sum; rw [Nat.xor_comm full, xor_cancel]
  rw [e] at h
  unfold sum at *
  rw [reg_append, h]
  ac_rfl

/-- The table's entry for a byte; what the rest of the register adds. -/
theorem byt_table (r b : Nat) (hr : r < 4294967296) (hb : b < 256) : byt r b = stpN 8 ((r % 256) ^^^ b) ^^^ r / 256 := by
  have e : r = (r % 256) ^^^ (256 * (r / 256)) := by
    have h := Nat.two_pow_add_eq_or_of_lt (i := 8) (Nat.mod_lt r (by decide : (2 : Nat) ^ 8 > 0)) (r / 256)
    have h2 : (2 ^ 8 * (r / 256)) ||| (r % 2 ^ 8) = (r % 256) ^^^ (256 * (r / 256)) := by
      apply Nat.eq_of_testBit_eq
      intro i
      rw [Nat.testBit_or, Nat.testBit_xor, Nat.testBit_two_pow_mul, show r % 256 = r % 2 ^ 8 from rfl, Nat.testBit_mod_two_pow]
      by_cases hi : i < 8
      · have : ¬ (i ≥ 8) := by omega
        simp [hi, this]
      · simp [hi]
    omega
  unfold byt
  conv => lhs; rw [e]
  rw [show (r % 256) ^^^ (256 * (r / 256)) ^^^ b = ((r % 256) ^^^ b) ^^^ (256 * (r / 256)) by ac_rfl, stpN_xor, show 256 * (r / 256) = 2 ^ 8 * (r / 256) from rfl, stpN_shift]

/-! Matrices: columns of what becomes of each bit. -/
def col (n : Nat) (i : Nat) : Nat := stpN n (2 ^ i)
/-- The columns of the bits of r, from place i on, n of them. -/
def times (m : Nat → Nat) (r : Nat) : Nat → Nat
  | 0 => 0
  | n + 1 => times m r n ^^^ (if r.testBit n then m n else 0)
theorem times_eq (k r : Nat) : ∀ n, times (col k) r n = stpN k (r % 2 ^ n) := by
  intro n
  induction n with
  | zero => simp [times, Nat.mod_one, stpN_zero]
  | succ n ih =>
    have e : r % 2 ^ (n + 1) = (r % 2 ^ n) ^^^ (if r.testBit n then 2 ^ n else 0) := by
      apply Nat.eq_of_testBit_eq
      intro i
      rw [Nat.testBit_xor, Nat.testBit_mod_two_pow, Nat.testBit_mod_two_pow]
      have e2 : (if r.testBit n then 2 ^ n else 0 : Nat).testBit i = (decide (n = i) && r.testBit i) := by
        by_cases h : n = i
        · subst h; cases hr : r.testBit n <;> simp
        · cases r.testBit n
          · simp [h]
          · simp only [if_true, Nat.testBit_two_pow]; simp [h]
      rw [e2]
      by_cases h1 : i = n
      · subst h1; simp
      · by_cases h2 : i < n
        · have : i < n + 1 := by omega
          simp [h2, this, Ne.symm h1]
        · have : ¬ i < n + 1 := by omega
          simp [h2, this, Ne.symm h1]
    rw [times, ih, e, stpN_xor]
    congr 1
    cases r.testBit n
    · simp [stpN_zero]
    · simp [col]
theorem times_full (k r : Nat) (h : r < 4294967296) : times (col k) r 32 = stpN k r := by rw [times_eq, Nat.mod_eq_of_lt h]
/-- A matrix twice. -/
theorem col_square (k i : Nat) (hi : i < 32) : times (col k) (col k i) 32 = col (2 * k) i := by
  have : col k i < 4294967296 := stpN_lt k _ (Nat.lt_of_lt_of_le (Nat.pow_lt_pow_right (by decide) hi) (by decide))
  rw [times_full k _ this]
  unfold col
  rw [← stpN_add]; congr 1; omega
end Go.Proofs.Ytmpbohbecidkhaa.CrcA
