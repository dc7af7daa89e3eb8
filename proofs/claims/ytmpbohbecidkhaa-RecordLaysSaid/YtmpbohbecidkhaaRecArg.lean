/- What came in: a spoil; which byte it is. -/
import Derived.Test.YtmpbohbecidkhaaRecWk
import Derived.Test.YtmpbohbecidkhaaOpen
import Derived.Laws.Bits128
namespace Go.Proofs.Ytmpbohbecidkhaa.Rec
open Go.RowKit Go.Proofs.Ytmpbohbecidkhaa.Mem Go.Proofs.Ytmpbohbecidkhaa.Sep Go.Proofs.Ytmpbohbecidkhaa.Opn
set_option linter.unusedVariables false
set_option linter.unusedSimpArgs false

theorem head1 {cs : List Value} {v : Value} (h : cs.take 1 = [v]) : ∃ r, cs = v :: r := by
  cases cs with
  | nil => simp at h
  | cons a r => simp at h; exact ⟨r, by rw [h]⟩
def spoilSh : Sh := .cons 1 (.int .i64) (.cons 1 (.int .i64) (.cons 1 (.int .u8) (.cons 1 .bool (.cons 1 .bool (.cons 1 .bool .nil)))))
theorem rd_spoil {W : World} {a : Array Value} (h : Rd W spoilSh a.toList) : ∃ (s t : Int) (b : Nat) (x y z : Bool), b < 256 ∧ (Lit.int .i64 s).wf = true ∧ (Lit.int .i64 t).wf = true ∧ a = #[.int .i64 s, .int .i64 t, .int .u8 (b : Nat), .bool x, .bool y, .bool z] := by
  obtain ⟨⟨s, e0, w0⟩, ⟨t, e1, w1⟩, ⟨b, e2, w2⟩, ⟨x, e3⟩, ⟨y, e4⟩, ⟨z, e5⟩, h6⟩ := h
  obtain ⟨r0, hr0⟩ := head1 e0
  rw [hr0] at e1 e2 e3 e4 e5 h6
  obtain ⟨r1, rfl⟩ := head1 (by simpa using e1)
  obtain ⟨r2, rfl⟩ := head1 (by simpa using e2)
  obtain ⟨r3, rfl⟩ := head1 (by simpa using e3)
  obtain ⟨r4, rfl⟩ := head1 (by simpa using e4)
  obtain ⟨r5, rfl⟩ := head1 (by simpa using e5)
  have h7 : r5 = [] := by
    have h8 : Rd W .nil r5 := by simpa using h6
    exact h8
  subst h7
  obtain ⟨m, rfl, hm⟩ := wf_u8 w2
  exact ⟨s, t, m, x, y, z, hm, w0, w1, by rw [← Array.toArray_toList (xs := a), hr0]⟩
theorem i64_and63 (n : Int) : Go.bits .and .i64 n 63 = n % 64 := by
  have h63 : (BitVec.ofInt 64 63).toNat = 2 ^ 6 - 1 := by decide
  have key : (BitVec.ofInt 64 n &&& BitVec.ofInt 64 63).toNat = (n % ((2 ^ 64 : Nat) : Int)).toNat % 2 ^ 6 := by
    rw [BitVec.toNat_and, BitVec.toNat_ofInt, h63, Nat.and_two_pow_sub_one_eq_mod]
  show IntKind.i64.wrap ((BitVec.ofInt 64 n &&& BitVec.ofInt 64 63).toNat : Nat) = n % 64
  rw [key, IntKind.wrap_i64]
  omega
/-- Which byte. -/
theorem at63 (t : Int) : ∃ j : Nat, j < 64 ∧ Go.bits .and .i64 t 63 = (j : Int) := ⟨(t % 64).toNat, by omega, by rw [i64_and63]; omega⟩
end Go.Proofs.Ytmpbohbecidkhaa.Rec
