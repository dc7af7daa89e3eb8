/- The product of two elements of the field of 256, by numbers alone: coefficients, remainder; and its rows of bits. -/
import Derived.Test.YtgojbngdncligaaMem
namespace Go.Proofs.Ytgojbngdncligaa.Gmul

/-- Products of coefficients, of the first i of a. -/
def clTo (a b : Nat) : Nat → Nat
  | 0 => 0
  | i + 1 => clTo a b i ^^^ (if a.testBit i then b <<< i else 0)
/-- One step of the remainder, at place i. -/
def redStep (C i : Nat) : Nat := if C.testBit i then C ^^^ (0x11d <<< (i - 8)) else C
/-- Steps 14, 13, ..: n of them. -/
def redTo (C : Nat) : Nat → Nat
  | 0 => C
  | n + 1 => redStep (redTo C n) (14 - n)
def gmul (a b : Nat) : Nat := redTo (clTo a b 8) 7 % 256

/-- The bits of a number, as whole numbers. -/
def bl (C : Nat) : List Int := List.map (fun j => if C.testBit j then (1 : Int) else 0) (List.range 15)
theorem bl_length (C : Nat) : (bl C).length = 15 := by simp [bl]
theorem bl_getD (C j : Nat) (h : j < 15) : (bl C).getD j 0 = if C.testBit j then 1 else 0 := by
  simp [bl, List.getD_eq_getElem?_getD, h]
theorem one_bit (n : Nat) (h : n ≠ 0) : Nat.testBit 1 n = false := Nat.testBit_lt_two_pow (Nat.one_lt_two_pow h)
theorem bit_at (t : Bool) (j n : Nat) : (((if t then 1 else 0 : Nat)) <<< j).testBit n = (decide (j = n) && t) := by
  rw [Nat.testBit_shiftLeft]
  by_cases h : j = n
  · subst h; cases t <;> simp
  · by_cases h2 : j ≤ n
    · cases t
      · simp
      · simp only [if_true]; rw [one_bit _ (by omega)]; simp [h]
    · simp [h, h2]
/-- A bit turned. -/
theorem bl_set (C j : Nat) (_h : j < 15) (v : Int) (t : Bool) (hv : v = if (C.testBit j).xor t then 1 else 0) : (bl C).set j v = bl (C ^^^ ((if t then 1 else 0) <<< j)) := by
  apply List.ext_getElem
  · simp [bl]
  · intro n h1 h2
    simp only [bl, List.length_set, List.length_map, List.length_range] at h1
    rw [List.getElem_set]
    have hb : (C ^^^ ((if t then 1 else 0) <<< j)).testBit n = ((C.testBit n).xor (decide (j = n) && t)) := by rw [Nat.testBit_xor, bit_at]
    have e2 : (bl (C ^^^ ((if t then 1 else 0) <<< j)))[n] = if (C.testBit n).xor (decide (j = n) && t) then 1 else 0 := by simp only [bl, List.getElem_map, List.getElem_range, hb]
    refine Eq.trans ?_ e2.symm
    by_cases hn : j = n
    · subst hn
      rw [if_pos rfl, hv]; simp
    · rw [if_neg hn]; simp [bl, hn]
theorem bl_zero : bl 0 = List.replicate 15 0 := by decide +kernel

/-- The inner loop's step: one bit of b more, at its place. -/
theorem low_step (b k i : Nat) : ((b % 2 ^ (k + 1)) <<< i) = ((b % 2 ^ k) <<< i) ^^^ ((if b.testBit k then 1 else 0) <<< (i + k)) := by
  apply Nat.eq_of_testBit_eq
  intro n
  rw [Nat.testBit_xor, bit_at, Nat.testBit_shiftLeft, Nat.testBit_shiftLeft, Nat.testBit_mod_two_pow, Nat.testBit_mod_two_pow]
  by_cases h1 : i ≤ n
  · by_cases h3 : i + k = n
    · subst h3
      simp
    · by_cases h2 : i + k ≤ n
      · have a1 : ¬ (n - i < k + 1) := by omega
        have a2 : ¬ (n - i < k) := by omega
        simp [a1, a2, h3]
      · have a1 : n - i < k + 1 := by omega
        have a2 : n - i < k := by omega
        simp [h1, h3, a1, a2]
  · have h2 : ¬ (i + k = n) := by omega
    simp [h1, h2]

theorem red_turns (C i : Nat) (h : 8 ≤ i) (h' : i ≤ 14) : C ^^^ (0x11d <<< (i - 8)) = ((((C ^^^ (1 <<< i)) ^^^ (1 <<< (i - 4))) ^^^ (1 <<< (i - 5))) ^^^ (1 <<< (i - 6))) ^^^ (1 <<< (i - 8)) := by
  have e : ∀ j : Fin 7, (0x11d <<< j.val : Nat) = (((1 <<< (j.val + 8)) ^^^ (1 <<< (j.val + 4))) ^^^ (1 <<< (j.val + 3))) ^^^ (1 <<< (j.val + 2)) ^^^ (1 <<< j.val) := by decide +kernel
  have := e ⟨i - 8, by omega⟩
  simp only at this
  rw [this, show i - 8 + 8 = i by omega, show i - 8 + 4 = i - 4 by omega, show i - 8 + 3 = i - 5 by omega, show i - 8 + 2 = i - 6 by omega]
  simp only [Nat.xor_assoc]

/-- The number that the first bits tell, from place i on. -/
theorem horner (M i : Nat) : 2 * (M / 2 ^ (i + 1)) + (if M.testBit i then 1 else 0) = M / 2 ^ i := by
  have h1 : M / 2 ^ (i + 1) = M / 2 ^ i / 2 := by rw [Nat.pow_succ, Nat.div_div_eq_div_mul]
  have h2 : M.testBit i = decide (M / 2 ^ i % 2 = 1) := Nat.testBit_eq_decide_div_mod_eq
  rw [h1, h2]
  by_cases h : M / 2 ^ i % 2 = 1
  · simp only [h, decide_true, if_true]; omega
  · simp only [h, decide_false, Bool.false_eq_true, if_false]; omega
end Go.Proofs.Ytgojbngdncligaa.Gmul
