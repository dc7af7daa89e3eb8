/- Sums bit by bit, walked: crc.step, crc.Slow, and the document's xor, turned, On, More, Sum, Join. -/
import Derived.Test.YtmpbohbecidkhaaCrcAlg
import Derived.Test.YtmpbohbecidkhaaBits
import Derived.Test.YtmpbohbecidkhaaMem
import Derived.WalkKit
import Derived.KernelRfl
import Derived.Deep.LoopGhost
import Derived.Deep.QuietTactic
import Derived.BigQuiet
import Derived.Test.YtmpbohbecidkhaaProg
import Derived.Test.YtmpbohbecidkhaaWWords
namespace Go.Proofs.Ytmpbohbecidkhaa.CrcS
open Go.RowKit Go.Proofs.Ytmpbohbecidkhaa.Mem Go.Proofs.Ytmpbohbecidkhaa.CrcA Go.Proofs.Ytmpbohbecidkhaa.Bits
open Go.Proofs.YtmpbohbecidkhaaW.PrintWords hiding bt
set_option linter.unusedVariables false
set_option linter.unusedSimpArgs false

/-- A string's bytes. -/
def by8 (s : ByteArray) : List Nat := s.data.toList.map UInt8.toNat
theorem by8_length (s : ByteArray) : (by8 s).length = s.size := by simp [by8]
theorem by8_lt (s : ByteArray) : ∀ b ∈ by8 s, b < 256 := by
  intro b hb
  simp only [by8, List.mem_map] at hb
  obtain ⟨x, _, rfl⟩ := hb
  exact x.toNat_lt
theorem by8_at (s : ByteArray) (k : Nat) (h : k < s.size) : ∃ b : Nat, b < 256 ∧ (∀ h : k < s.size, ((s[k]'h).toNat : Int) = (b : Int)) ∧ (by8 s)[k]? = some b := by
  refine ⟨(s[k]'h).toNat, UInt8.toNat_lt _, fun _ => rfl, ?_⟩
  · have h' : k < s.data.toList.length := by simpa using h
    simp [by8, List.getElem?_map, List.getElem?_eq_getElem h']
    rfl
theorem reg_take (r : Nat) (l : List Nat) (k b : Nat) (h : l[k]? = some b) : reg r (l.take (k + 1)) = byt (reg r (l.take k)) b := by
  rw [List.take_add_one, h, reg_append]; rfl
theorem reg_take_lt (s : ByteArray) (k r : Nat) (h : r < 4294967296) : reg r ((by8 s).take k) < 4294967296 :=
  reg_lt _ _ h (fun b hb => by8_lt s b (List.mem_of_mem_take hb))
theorem not_u32 (r : Nat) (h : r < 4294967296) : Go.bits .xor .u32 4294967295 r = ((r ^^^ full : Nat) : Int) := by
  have := xor_u32 4294967295 r (by decide) h
  rw [Nat.xor_comm] at this
  exact this

theorem stpN_succ (n r : Nat) : stpN (n + 1) r = stp (stpN n r) := stpN_add n 1 r
theorem stpN_at0 (r : Nat) : stpN 0 r = r := rfl
theorem reg_nil (r : Nat) : reg r [] = r := rfl
theorem byt_def (r b : Nat) : stpN 8 (r ^^^ b) = byt r b := rfl
theorem sum_def (l : List Nat) : reg full l ^^^ full = CrcA.sum l := rfl

theorem unary_not_u32 (n : Int) : Op.unary .xor (.int .u32 n) = Op.intBits .xor .u32 4294967295 n := rfl
attribute [local go_sem high] unary_not_u32

attribute [local irreducible] stp stpN byt reg sum

theorem stp_odd (r : Nat) (h : r % 2 = 1) : stp r = (r / 2) ^^^ 3988292384 := by
  unfold stp; rw [if_pos (by simp [Nat.testBit_zero, h])]; rfl
theorem stp_pair (r : Nat) (h : r % 2 = 0) : stp r = r / 2 := by
  unfold stp; rw [if_neg (by simp [Nat.testBit_zero, h])]; exact Nat.xor_zero _
theorem step_calls (r : Nat) (hr : r < 4294967296) (w : World) :
    Calls Try.prog 77 #[.int .u32 r] w fun e w' => e = .returned (.int .u32 (stp r : Nat)) ∧ Drawn0 w w' := by
  have ho := odd_u32 r hr
  have hx := xor_u32 (r / 2) 3988292384 (by omega) (by decide)
  have hx' : Go.bits .xor .u32 ((r : Int) / 2) 3988292384 = ((r / 2 ^^^ 3988292384 : Nat) : Int) := hx
  clear hx
  rcases Nat.mod_two_eq_zero_or_one r with h | h
  · rw [stp_pair r h]
    rw [h] at ho
    go_enter Try.func77, Try.ntmps77
    go_wp2
    go_ret
    exact ⟨rfl, by first | exact Drawn0.refl _ | (apply Drawn0.step; exact Drawn0.refl _)⟩
  · rw [stp_odd r h]
    rw [h] at ho
    go_enter Try.func77, Try.ntmps77
    go_wp2
    go_ret
    exact ⟨rfl, by first | exact Drawn0.refl _ | (apply Drawn0.step; exact Drawn0.refl _)⟩

set_option maxHeartbeats 4000000 in
set_option maxRecDepth 100000 in
theorem slow_calls (s : ByteArray) (hs : s.size ≤ 9223372036854775807) (w : World) :
    Calls Try.prog 49 #[.string s] w fun e w' => e = .returned (.int .u32 (CrcA.sum (by8 s) : Nat)) ∧ Drawn0 w w' := by
  go_enter Try.func49, Try.ntmps49
  go_wp2
  go_loopw [3, 7] (fun x i wr => ∃ k n : Nat, k ≤ s.size ∧ n < 4294967296 ∧ Hid (n = reg full ((by8 s).take k)) ∧ i = .int .i64 k ∧ x = .int .u32 n ∧ Drawn0 w wr) (fun _ i _ => s.size - (intOf i).toNat)
  case atStart => exact ⟨0, full, Nat.zero_le _, by decide, Lib.hid (by simp [reg]), rfl, rfl, Drawn0.refl _⟩
  case round =>
    obtain ⟨k, n, hk, hn, HN, rfl, rfl, ⟨nd, rfl⟩⟩ := hrel
    by_cases hlt : k < s.size
    · obtain ⟨b, hb, hbt, hb8⟩ := by8_at s k hlt
      have hx := xor_u32 n b hn (by omega)
      have dlt : decide ((k : Int) < (s.size : Int)) = true := decide_eq_true (by omega)
      have q6 : ((k : Int) < (s.size : Int)) = True := eq_true (by omega)
      have hw : (b : Int) % 4294967296 = b := by omega
      have hm : n ^^^ b < 4294967296 := Nat.xor_lt_two_pow (n := 32) hn (by omega)
      go_wp2
      go_loopw [3, 16] (fun x i wr => ∃ j m : Nat, j ≤ 8 ∧ m < 4294967296 ∧ Hid (m = stpN j (n ^^^ b)) ∧ i = .int .i64 j ∧ x = .int .u32 m ∧ Drawn0 w wr) (fun _ i _ => 8 - (intOf i).toNat)
      case atStart => exact ⟨0, n ^^^ b, by omega, hm, Lib.hid (stpN_at0 _).symm, rfl, rfl, ⟨_, rfl⟩⟩
      case round =>
        obtain ⟨j, m, hj, hm, HM, rfl, rfl, ⟨nd2, rfl⟩⟩ := hrel
        by_cases hl : j < 8
        · go_wp2_with fail
          refine (step_calls m hm _).mono ?_
          rintro e w1 ⟨rfl, ⟨nd3, rfl⟩⟩
          go_wp2
          exact ⟨⟨j + 1, stp m, by omega, stp_lt _ hm, Lib.hid (by rw [HM.out, stpN_succ]), by go_num, rfl, by repeat (first | exact ⟨_, rfl⟩ | apply Drawn0.step)⟩, by simp [intOf]; omega⟩
        · obtain rfl : j = 8 := by omega
          go_wp2
          exact ⟨⟨k + 1, m, by omega, hm, Lib.hid (by rw [HM.out, reg_take _ _ _ _ hb8, ← HN.out, byt_def]), by go_num, rfl, ⟨_, rfl⟩⟩, by simp [intOf]; omega⟩
    · obtain rfl : k = s.size := by omega
      have hx := not_u32 n hn
      go_wp2
      go_ret
      refine ⟨?_, ⟨_, rfl⟩⟩
      have e : n ^^^ full = CrcA.sum (by8 s) := by rw [HN.out, List.take_of_length_le (by rw [by8_length]; exact Nat.le_refl _), sum_def]
      rw [← e]; rfl

/-! The document's. -/
theorem half_bit (A k : Nat) : A / 2 ^ k % 2 = if A.testBit k then 1 else 0 := by
  rw [Nat.testBit_eq_decide_div_mod_eq]
  by_cases h : A / 2 ^ k % 2 = 1
  · rw [h]; rfl
  · rw [show A / 2 ^ k % 2 = 0 by omega]; rfl
theorem mod_next (X k : Nat) : X % 2 ^ (k + 1) = X % 2 ^ k + (if X.testBit k then 2 ^ k else 0) := by
  rw [Nat.pow_succ, Nat.mod_mul, half_bit]
  cases X.testBit k <;> simp

set_option maxHeartbeats 4000000 in
set_option maxRecDepth 100000 in
theorem xor_calls (A B : Nat) (hA : A < 4294967296) (hB : B < 4294967296) (w : World) :
    Calls Try.prog 100 #[.int .u32 A, .int .u32 B] w fun e w' => e = .returned (.int .u32 (A ^^^ B : Nat)) ∧ Drawn0 w w' := by
  have hX : A ^^^ B < 4294967296 := Nat.xor_lt_two_pow (n := 32) hA hB
  go_enter Try.func100, Try.ntmps100
  go_wp2
  go_loopw [0, 1, 5, 6, 7] (fun x0 x1 x5 x6 x7 wr => ∃ k a b n p : Nat, k ≤ 32 ∧ a < 4294967296 ∧ b < 4294967296 ∧ n < 4294967296 ∧ p < 4294967296 ∧ Hid (a = A / 2 ^ k ∧ b = B / 2 ^ k ∧ n = (A ^^^ B) % 2 ^ k ∧ p = 2 ^ k % 4294967296) ∧ x0 = .int .u32 a ∧ x1 = .int .u32 b ∧ x5 = .int .u32 n ∧ x6 = .int .u32 p ∧ x7 = .int .i64 k ∧ Drawn0 w wr) (fun _ _ _ _ i _ => 32 - (intOf i).toNat)
  case atStart => exact ⟨0, A, B, 0, 1, by omega, hA, hB, by omega, by omega, Lib.hid ⟨by simp, by simp, by simp [Nat.mod_one], by decide⟩, rfl, rfl, rfl, rfl, rfl, Drawn0.refl _⟩
  case round =>
    obtain ⟨k, a, b, n, p, hk, ha, hb, hn, hp, HX, rfl, rfl, rfl, rfl, rfl, ⟨nd, rfl⟩⟩ := hrel
    by_cases hlt : k < 32
    · have hpk : p = 2 ^ k := by
        rw [HX.out.2.2.2, Nat.mod_eq_of_lt]
        exact Nat.pow_lt_pow_right (by decide) hlt
      have hsum : (A ^^^ B) % 2 ^ (k + 1) = n + (if (a % 2 == b % 2) then 0 else p) := by
        rw [mod_next, HX.out.2.2.1, hpk, HX.out.1, HX.out.2.1, half_bit, half_bit, Nat.testBit_xor]
        cases A.testBit k <;> cases B.testBit k <;> simp
      have h2 : 2 * p % 4294967296 = 2 ^ (k + 1) % 4294967296 := by rw [hpk, Nat.pow_succ, Nat.mul_comm]
      have hle : (A ^^^ B) % 2 ^ (k + 1) < 4294967296 := Nat.lt_of_le_of_lt (Nat.mod_le _ _) hX
      have ha2 : a / 2 = A / 2 ^ (k + 1) := by rw [HX.out.1, Nat.div_div_eq_div_mul, Nat.pow_succ]
      have hb2 : b / 2 = B / 2 ^ (k + 1) := by rw [HX.out.2.1, Nat.div_div_eq_div_mul, Nat.pow_succ]
      have HS := Lib.hid (And.intro ha2 (And.intro hb2 h2))
      clear ha2 hb2 h2 hpk
      by_cases he : a % 2 = b % 2
      · have e1 : ((a % 2 : Nat) : Int) = ((b % 2 : Nat) : Int) := by rw [he]
        rw [if_pos (beq_iff_eq.2 he)] at hsum
        have HS2 := Lib.hid hsum
        clear hsum hle
        have q0 : (((a : Int) % 2) == ((b : Int) % 2)) = true := beq_iff_eq.2 (by omega)
        have q1 : (((a : Int) % 2) != ((b : Int) % 2)) = false := bne_eq_false_iff_eq.2 (by omega)
        clear he e1
        go_wp2
        exact ⟨⟨k + 1, a / 2, b / 2, n, 2 * p % 4294967296, by omega, by omega, by omega, hn, by omega, Lib.hid ⟨HS.out.1, HS.out.2.1, by have := HS2.out; omega, HS.out.2.2⟩, by go_num, by go_num, rfl, by go_num, by go_num, ⟨_, rfl⟩⟩, by simp [intOf]; omega⟩
      · rw [if_neg (by simpa using he)] at hsum
        have hs : n + p < 4294967296 := by omega
        have HS2 := Lib.hid hsum
        clear hsum hle
        have q0 : (((a : Int) % 2) == ((b : Int) % 2)) = false := beq_eq_false_iff_ne.2 (by omega)
        have q1 : (((a : Int) % 2) != ((b : Int) % 2)) = true := bne_iff_ne.2 (by omega)
        clear he
        go_wp2
        exact ⟨⟨k + 1, a / 2, b / 2, n + p, 2 * p % 4294967296, by omega, by omega, by omega, by omega, by omega, Lib.hid ⟨HS.out.1, HS.out.2.1, by have := HS2.out; omega, HS.out.2.2⟩, by go_num, by go_num, by go_num, by go_num, by go_num, ⟨_, rfl⟩⟩, by simp [intOf]; omega⟩
    · obtain rfl : k = 32 := by omega
      go_wp2
      go_ret
      refine ⟨?_, ⟨_, rfl⟩⟩
      have e : n = A ^^^ B := by rw [HX.out.2.2.1]; exact Nat.mod_eq_of_lt hX
      rw [← e]; rfl

theorem half_xor_calls (m : Nat) (hm : m < 4294967296) (w : World) :
    Calls Try.prog 100 #[.int .u32 ((m : Int) / 2), .int .u32 3988292384] w fun e w' => e = .returned (.int .u32 (m / 2 ^^^ 3988292384 : Nat)) ∧ Drawn0 w w' := by
  have h := xor_calls (m / 2) 3988292384 (by omega) (by decide) w
  rw [show ((m / 2 : Nat) : Int) = (m : Int) / 2 by omega] at h
  exact h

theorem full_sub (r : Nat) (h : r < 4294967296) : r ^^^ full = 4294967295 - r := by
  refine Eq.trans ?_ (show 2 ^ 32 - (r + 1) = 4294967295 - r by omega)
  apply Nat.eq_of_testBit_eq
  intro i
  rw [Nat.testBit_two_pow_sub_succ (n := 32) h, Nat.testBit_xor]
  have hf : full.testBit i = decide (i < 32) := by
    rw [show full = 2 ^ 32 - 1 by decide, Nat.testBit_two_pow_sub_one]
  rw [hf]
  by_cases hi : i < 32
  · simp [hi]
  · simp only [hi, decide_false, Bool.xor_false, Bool.false_and]
    exact Nat.testBit_lt_two_pow (Nat.lt_of_lt_of_le h (Nat.pow_le_pow_right (n := 2) (by decide) (by omega : 32 ≤ i)))
theorem turned_calls (r : Nat) (hr : r < 4294967296) (w : World) :
    Calls Try.prog 88 #[.int .u32 r] w fun e w' => e = .returned (.int .u32 (r ^^^ full : Nat)) ∧ Drawn0 w w' := by
  rw [full_sub r hr]
  go_enter Try.func88, Try.ntmps88
  go_wp2
  go_ret
  exact ⟨by go_num, by first | exact Drawn0.refl _ | (apply Drawn0.step; exact Drawn0.refl _)⟩

set_option maxHeartbeats 4000000 in
set_option maxRecDepth 100000 in
theorem on_calls (r b : Nat) (hr : r < 4294967296) (hb : b < 256) (w : World) :
    Calls Try.prog 89 #[.int .u32 r, .int .u8 b] w fun e w' => e = .returned (.int .u32 (byt r b : Nat)) ∧ Drawn0 w w' := by
  have hw : (b : Int) % 4294967296 = b := by omega
  have hm : r ^^^ b < 4294967296 := Nat.xor_lt_two_pow (n := 32) hr (by omega)
  go_enter Try.func89, Try.ntmps89
  go_wp2_with fail
  refine (xor_calls r b hr (by omega) _).mono ?_
  rintro e w1 ⟨rfl, ⟨nd1, rfl⟩⟩
  go_wp2
  go_loopw [0, 5] (fun x i wr => ∃ j m : Nat, j ≤ 8 ∧ m < 4294967296 ∧ Hid (m = stpN j (r ^^^ b)) ∧ i = .int .i64 j ∧ x = .int .u32 m ∧ Drawn0 w wr) (fun _ i _ => 8 - (intOf i).toNat)
  case atStart => exact ⟨0, r ^^^ b, by omega, hm, Lib.hid (stpN_at0 _).symm, rfl, rfl, ⟨_, rfl⟩⟩
  case round =>
    obtain ⟨j, m, hj, hm, HM, rfl, rfl, ⟨nd2, rfl⟩⟩ := hrel
    by_cases hl : j < 8
    · have hd : m / 2 < 4294967296 := by omega
      rcases Nat.mod_two_eq_zero_or_one m with h | h
      · have hs := stp_pair m h
        have hr : (m : Int) % 2 = 0 := by omega
        have HS := Lib.hid hs
        clear h hs
        go_wp2
        exact ⟨⟨j + 1, m / 2, by omega, by omega, Lib.hid (by rw [stpN_succ, ← HM.out, HS.out]), by go_num, rfl, ⟨_, rfl⟩⟩, by simp [intOf]; omega⟩
      · have hs := stp_odd m h
        have hr : (m : Int) % 2 = 1 := by omega
        have hx : m / 2 ^^^ 3988292384 < 4294967296 := Nat.xor_lt_two_pow (n := 32) hd (by decide)
        have HS := Lib.hid hs
        clear h hs
        go_wp2_with fail
        refine (half_xor_calls m hm _).mono ?_
        rintro e w1 ⟨rfl, ⟨nd3, rfl⟩⟩
        go_wp2
        exact ⟨⟨j + 1, m / 2 ^^^ 3988292384, by omega, hx, Lib.hid (by rw [stpN_succ, ← HM.out, HS.out]), by go_num, rfl, by repeat (first | exact ⟨_, rfl⟩ | apply Drawn0.step)⟩, by simp [intOf]; omega⟩
    · obtain rfl : j = 8 := by omega
      go_wp2
      go_ret
      refine ⟨?_, ⟨_, rfl⟩⟩
      rw [← byt_def, ← HM.out]; rfl

set_option maxHeartbeats 4000000 in
set_option maxRecDepth 100000 in
theorem more_calls (r : Nat) (s : ByteArray) (hr : r < 4294967296) (hs : s.size ≤ 9223372036854775807) (w : World) :
    Calls Try.prog 68 #[.int .u32 r, .string s] w fun e w' => e = .returned (.int .u32 (reg (r ^^^ full) (by8 s) ^^^ full : Nat)) ∧ Drawn0 w w' := by
  have hr2 : r ^^^ full < 4294967296 := Nat.xor_lt_two_pow (n := 32) hr (by decide)
  go_enter Try.func68, Try.ntmps68
  go_wp2_with fail
  refine (turned_calls r hr _).mono ?_
  rintro e w1 ⟨rfl, ⟨nd1, rfl⟩⟩
  go_wp2
  go_loopw [5, 6] (fun x i wr => ∃ k n : Nat, k ≤ s.size ∧ n < 4294967296 ∧ Hid (n = reg (r ^^^ full) ((by8 s).take k)) ∧ i = .int .i64 k ∧ x = .int .u32 n ∧ Drawn0 w wr) (fun _ i _ => s.size - (intOf i).toNat)
  case atStart => exact ⟨0, r ^^^ full, Nat.zero_le _, hr2, Lib.hid (reg_nil _).symm, rfl, rfl, ⟨_, rfl⟩⟩
  case round =>
    obtain ⟨k, n, hk, hn, HN, rfl, rfl, ⟨nd, rfl⟩⟩ := hrel
    by_cases hlt : k < s.size
    · obtain ⟨b, hb, hbt, hb8⟩ := by8_at s k hlt
      have dlt : decide ((k : Int) < (s.size : Int)) = true := decide_eq_true (by omega)
      have q6 : ((k : Int) < (s.size : Int)) = True := eq_true (by omega)
      go_wp2_with fail
      refine (on_calls n b hn hb _).mono ?_
      rintro e w1 ⟨rfl, ⟨nd3, rfl⟩⟩
      go_wp2
      exact ⟨⟨k + 1, byt n b, by omega, byt_lt n b hn hb, Lib.hid (by rw [reg_take _ _ _ _ hb8, ← HN.out]), by go_num, rfl, by repeat (first | exact ⟨_, rfl⟩ | apply Drawn0.step)⟩, by simp [intOf]; omega⟩
    · obtain rfl : k = s.size := by omega
      go_wp2_with fail
      refine (turned_calls n hn _).mono ?_
      rintro e w1 ⟨rfl, ⟨nd3, rfl⟩⟩
      go_wp2
      go_ret
      refine ⟨?_, by repeat (first | exact ⟨_, rfl⟩ | apply Drawn0.step)⟩
      have e : n = reg (r ^^^ full) (by8 s) := by rw [HN.out, List.take_of_length_le (by rw [by8_length]; exact Nat.le_refl _)]
      rw [← e]; rfl
theorem sum_calls (s : ByteArray) (hs : s.size ≤ 9223372036854775807) (w : World) :
    Calls Try.prog 40 #[.string s] w fun e w' => e = .returned (.int .u32 (CrcA.sum (by8 s) : Nat)) ∧ Drawn0 w w' := by
  go_enter Try.func40, Try.ntmps40
  go_wp2_with fail
  refine (more_calls 0 s (by decide) hs _).mono ?_
  rintro e w1 ⟨rfl, ⟨nd1, rfl⟩⟩
  go_wp2
  go_ret
  exact ⟨by rw [← sum_def]; simp, by repeat (first | exact ⟨_, rfl⟩ | apply Drawn0.step)⟩
end Go.Proofs.Ytmpbohbecidkhaa.CrcS
