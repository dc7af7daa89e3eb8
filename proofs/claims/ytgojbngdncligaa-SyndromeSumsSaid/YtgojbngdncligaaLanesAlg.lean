/- Words of bytes, by numbers alone: bitwise operations byte by byte; each byte doubled, times an element. -/
import Derived.Test.YtgojbngdncligaaGfAlg
namespace Go.Proofs.Ytgojbngdncligaa.LanesA
open Go.Proofs.Ytgojbngdncligaa.Gmul
set_option linter.unusedVariables false

/-- The word of bytes, the lowest first. -/
def wd : List Nat → Nat
  | [] => 0
  | b :: l => b + 256 * wd l
theorem cons_bit (b y i : Nat) (hb : b < 256) : (b + 256 * y).testBit i = if i < 8 then b.testBit i else y.testBit (i - 8) := by
  have h := Nat.testBit_two_pow_mul_add y (b := b) (i := 8) hb i
  rw [show 2 ^ 8 * y + b = b + 256 * y by omega] at h
  exact h
theorem and_cons (b m y M : Nat) (hb : b < 256) (hm : m < 256) : (b + 256 * y) &&& (m + 256 * M) = (b &&& m) + 256 * (y &&& M) := by
  have hbm : b &&& m < 256 := Nat.lt_of_le_of_lt Nat.and_le_left hb
  apply Nat.eq_of_testBit_eq
  intro i
  rw [Nat.testBit_and, cons_bit b y i hb, cons_bit m M i hm, cons_bit _ _ i hbm]
  split
  · rw [Nat.testBit_and]
  · rw [Nat.testBit_and]
theorem xor_cons (b m y M : Nat) (hb : b < 256) (hm : m < 256) : (b + 256 * y) ^^^ (m + 256 * M) = (b ^^^ m) + 256 * (y ^^^ M) := by
  have hbm : b ^^^ m < 256 := Nat.xor_lt_two_pow (n := 8) hb hm
  apply Nat.eq_of_testBit_eq
  intro i
  rw [Nat.testBit_xor, cons_bit b y i hb, cons_bit m M i hm, cons_bit _ _ i hbm]
  split
  · rw [Nat.testBit_xor]
  · rw [Nat.testBit_xor]
theorem wd_lt : ∀ (l : List Nat), (∀ b ∈ l, b < 256) → wd l < 256 ^ l.length
  | [], _ => by decide
  | b :: l, h => by
    have h1 := wd_lt l (fun x hx => h x (by simp [hx]))
    have h2 := h b (by simp)
    rw [List.length_cons, Nat.pow_succ]
    show b + 256 * wd l < 256 ^ l.length * 256
    omega
theorem wd_xor : ∀ (l m : List Nat), l.length = m.length → (∀ b ∈ l, b < 256) → (∀ b ∈ m, b < 256) → wd l ^^^ wd m = wd (List.zipWith (· ^^^ ·) l m)
  | [], [], _, _, _ => rfl
  | b :: l, c :: m, h, hl, hm => by
    show (b + 256 * wd l) ^^^ (c + 256 * wd m) = (b ^^^ c) + 256 * wd (List.zipWith (· ^^^ ·) l m)
    rw [xor_cons _ _ _ _ (hl b (by simp)) (hm c (by simp)), wd_xor l m (by simpa using h) (fun x hx => hl x (by simp [hx])) (fun x hx => hm x (by simp [hx]))]
  | [], _ :: _, h, _, _ => by simp at h
  | _ :: _, [], h, _, _ => by simp at h
def sevens (n : Nat) : Nat := wd (List.replicate n 127)
def ones (n : Nat) : Nat := wd (List.replicate n 1)
theorem byte_twice : ∀ b : Fin 256, (2 * (b.val &&& 127)) ^^^ ((b.val / 128) * 29) = gmul b.val 2 := by decide +kernel
/-- Each byte doubled. -/
theorem wd_twice : ∀ (l : List Nat), (∀ b ∈ l, b < 256) → ((wd l &&& sevens l.length) * 2) ^^^ (((wd l / 128) &&& ones l.length) * 29) = wd (l.map (gmul · 2))
  | [], _ => by simp [wd, sevens, ones]
  | b :: l, h => by
    have hb : b < 256 := h b (by simp)
    have ih := wd_twice l (fun x hx => h x (by simp [hx]))
    show (((b + 256 * wd l) &&& (127 + 256 * sevens l.length)) * 2) ^^^ ((((b + 256 * wd l) / 128) &&& (1 + 256 * ones l.length)) * 29) = gmul b 2 + 256 * wd (l.map (gmul · 2))
    generalize wd l = W at ih ⊢
    generalize sevens l.length = M at ih ⊢
    generalize ones l.length = O at ih ⊢
    rw [and_cons b 127 W M hb (by decide)]
    have e1 : (b + 256 * W) / 128 = (b / 128 + 2 * W) % 256 + 256 * (W / 128) := by omega
    rw [e1, and_cons _ 1 _ O (Nat.mod_lt _ (by decide)) (by decide)]
    have e2 : (b / 128 + 2 * W) % 256 &&& 1 = b / 128 := by rw [Nat.and_one_is_mod]; omega
    rw [e2]
    have h127 : b &&& 127 < 128 := Nat.lt_of_le_of_lt Nat.and_le_right (by decide)
    have e3 : ((b &&& 127) + 256 * (W &&& M)) * 2 = 2 * (b &&& 127) + 256 * ((W &&& M) * 2) := by omega
    have e4 : (b / 128 + 256 * (W / 128 &&& O)) * 29 = b / 128 * 29 + 256 * ((W / 128 &&& O) * 29) := by omega
    rw [e3, e4, xor_cons _ _ _ _ (by omega) (by omega), ih, byte_twice ⟨b, hb⟩]
theorem sevens8 : sevens 8 = 9187201950435737471 := by decide
theorem ones8 : ones 8 = 72340172838076673 := by decide
theorem wd_lt8 (l : List Nat) (hl : l.length = 8) (h : ∀ b ∈ l, b < 256) : wd l < 18446744073709551616 := by
  have := wd_lt l h
  rw [hl] at this
  exact this
/-- A byte of a word. -/
theorem wd_byte : ∀ (l : List Nat) (i : Nat) (h : ∀ b ∈ l, b < 256), wd l / 256 ^ i % 256 = l.getD i 0
  | [], i, _ => by simp [wd]
  | b :: l, 0, h => by
    have := h b (by simp)
    show (b + 256 * wd l) / 1 % 256 = b
    omega
  | b :: l, i + 1, h => by
    have hb := h b (by simp)
    show (b + 256 * wd l) / 256 ^ (i + 1) % 256 = (l).getD i 0
    rw [← wd_byte l i (fun x hx => h x (by simp [hx])), Nat.pow_succ, Nat.mul_comm (256 ^ i) 256, ← Nat.div_div_eq_div_mul, show (b + 256 * wd l) / 256 = wd l by omega]
/-- A byte more at a word's end. -/
theorem wd_snoc : ∀ (l : List Nat) (b : Nat), wd (l ++ [b]) = wd l + 256 ^ l.length * b
  | [], b => by simp [wd]
  | c :: l, b => by
    show c + 256 * wd (l ++ [b]) = (c + 256 * wd l) + 256 ^ (l.length + 1) * b
    rw [wd_snoc l b, Nat.mul_add, Nat.pow_succ, Nat.mul_comm (256 ^ l.length) 256, Nat.mul_assoc, Nat.add_assoc]
theorem wd_snoc_or (l : List Nat) (b : Nat) (h : ∀ x ∈ l, x < 256) : wd l ||| (2 ^ (8 * l.length) * b) = wd (l ++ [b]) := by
  have h1 := wd_lt l h
  have e : (256 : Nat) ^ l.length = 2 ^ (8 * l.length) := by rw [Nat.pow_mul]
  rw [e] at h1
  rw [wd_snoc, e, Nat.add_comm, Nat.two_pow_add_eq_or_of_lt h1, Nat.or_comm]
end Go.Proofs.Ytgojbngdncligaa.LanesA
