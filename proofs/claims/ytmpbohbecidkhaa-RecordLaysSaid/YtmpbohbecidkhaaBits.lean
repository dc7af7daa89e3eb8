/- Go's bit operations on unsigned kinds, as those of natural numbers. -/
import Derived.Laws.BitsLemmas
namespace Go.Proofs.Ytmpbohbecidkhaa.Bits

theorem wrap_nat (k : IntKind) (hk : k.signed = false) (n : Nat) (h : n < 2 ^ k.bits) : k.wrap (n : Int) = n := by
  unfold IntKind.wrap
  simp only [hk, Bool.false_and, if_neg (show ¬ (false = true) by decide)]
  have : ((n : Int) % 2 ^ k.bits) = ((n % 2 ^ k.bits : Nat) : Int) := by simp
  rw [this, Nat.mod_eq_of_lt h]

theorem ofInt_nat (k : IntKind) (n : Nat) (h : n < 2 ^ k.bits) : (BitVec.ofInt k.bits (n : Int)).toNat = n := by
  rw [BitVec.ofInt_natCast, BitVec.toNat_ofNat, Nat.mod_eq_of_lt h]

theorem xor_nat (k : IntKind) (hk : k.signed = false) (a b : Nat) (ha : a < 2 ^ k.bits) (hb : b < 2 ^ k.bits) : Go.bits .xor k a b = ((a ^^^ b : Nat) : Int) := by
  simp only [Go.bits, BitVec.toNat_xor, ofInt_nat k a ha, ofInt_nat k b hb]
  exact wrap_nat k hk _ (Nat.xor_lt_two_pow ha hb)
theorem and_nat (k : IntKind) (hk : k.signed = false) (a b : Nat) (ha : a < 2 ^ k.bits) (hb : b < 2 ^ k.bits) : Go.bits .and k a b = ((a &&& b : Nat) : Int) := by
  simp only [Go.bits, BitVec.toNat_and, ofInt_nat k a ha, ofInt_nat k b hb]
  exact wrap_nat k hk _ (Nat.and_lt_two_pow _ hb)
theorem or_nat (k : IntKind) (hk : k.signed = false) (a b : Nat) (ha : a < 2 ^ k.bits) (hb : b < 2 ^ k.bits) : Go.bits .or k a b = ((a ||| b : Nat) : Int) := by
  simp only [Go.bits, BitVec.toNat_or, ofInt_nat k a ha, ofInt_nat k b hb]
  exact wrap_nat k hk _ (Nat.or_lt_two_pow ha hb)

theorem xor_u8 (a b : Nat) (ha : a < 256) (hb : b < 256) : Go.bits .xor .u8 a b = ((a ^^^ b : Nat) : Int) := xor_nat .u8 rfl a b ha hb
theorem xor_u32 (a b : Nat) (ha : a < 4294967296) (hb : b < 4294967296) : Go.bits .xor .u32 a b = ((a ^^^ b : Nat) : Int) := xor_nat .u32 rfl a b ha hb
theorem xor_u64 (a b : Nat) (ha : a < 18446744073709551616) (hb : b < 18446744073709551616) : Go.bits .xor .u64 a b = ((a ^^^ b : Nat) : Int) := xor_nat .u64 rfl a b ha hb
theorem and_u8 (a b : Nat) (ha : a < 256) (hb : b < 256) : Go.bits .and .u8 a b = ((a &&& b : Nat) : Int) := and_nat .u8 rfl a b ha hb
theorem and_u32 (a b : Nat) (ha : a < 4294967296) (hb : b < 4294967296) : Go.bits .and .u32 a b = ((a &&& b : Nat) : Int) := and_nat .u32 rfl a b ha hb
theorem and_u64 (a b : Nat) (ha : a < 18446744073709551616) (hb : b < 18446744073709551616) : Go.bits .and .u64 a b = ((a &&& b : Nat) : Int) := and_nat .u64 rfl a b ha hb
theorem or_u64 (a b : Nat) (ha : a < 18446744073709551616) (hb : b < 18446744073709551616) : Go.bits .or .u64 a b = ((a ||| b : Nat) : Int) := or_nat .u64 rfl a b ha hb
theorem odd_u8 (a : Nat) (ha : a < 256) : Go.bits .and .u8 a 1 = ((a % 2 : Nat) : Int) := by
  have h := and_u8 a 1 ha (by decide)
  rw [Nat.and_one_is_mod] at h
  exact h
theorem odd_u32 (a : Nat) (ha : a < 4294967296) : Go.bits .and .u32 a 1 = ((a % 2 : Nat) : Int) := by
  have h := and_u32 a 1 ha (by decide)
  rw [Nat.and_one_is_mod] at h
  exact h
theorem odd_u64 (a : Nat) (ha : a < 18446744073709551616) : Go.bits .and .u64 a 1 = ((a % 2 : Nat) : Int) := by
  have h := and_u64 a 1 ha (by decide)
  rw [Nat.and_one_is_mod] at h
  exact h
end Go.Proofs.Ytmpbohbecidkhaa.Bits
