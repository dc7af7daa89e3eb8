/- Numbers as bytes in Record, walked: record.number, the document's Number and Big. -/
import Derived.Test.YtmpbohbecidkhaaLabN
namespace Go.Proofs.Ytmpbohbecidkhaa.Rec
open Go.RowKit Go.Proofs.Ytmpbohbecidkhaa.Mem Go.Proofs.Ytmpbohbecidkhaa.Sep Go.Proofs.Ytmpbohbecidkhaa.Num Go.Proofs.Ytmpbohbecidkhaa.B8 Go.Proofs.Ytmpbohbecidkhaa.CrcS Go.Proofs.Ytmpbohbecidkhaa.Bits Go.Proofs.Ytmpbohbecidkhaa.Lab
open Go.Proofs.YtmpbohbecidkhaaW.PrintWords hiding bt
set_option linter.unusedVariables false
set_option linter.unusedSimpArgs false
attribute [local irreducible] vn bts big num

set_option maxHeartbeats 4000000 in
set_option maxRecDepth 100000 in
theorem recnum_calls (s : ByteArray) (hs : s.size ≤ 8) (w : World) :
    Calls Try.prog 69 #[.string s] w fun e w' => e = .returned (.int .u64 (num (by8 s) : Nat)) ∧ Drawn0 w w' := by
  go_enter Try.func69, Try.ntmps69
  go_wp2
  go_loopw [3, 7] (fun x i wr => ∃ k n : Nat, k ≤ s.size ∧ n < 18446744073709551616 ∧ Hid (n = num ((by8 s).take k)) ∧ i = .int .i64 k ∧ x = .int .u64 n ∧ Drawn0 w wr) (fun _ i _ => s.size - (intOf i).toNat)
  case atStart => exact ⟨0, 0, Nat.zero_le _, by decide, Lib.hid (by simp [num_nil]), rfl, rfl, Drawn0.refl _⟩
  case round =>
    obtain ⟨k, n, hk, hn, HN, rfl, rfl, ⟨nd, rfl⟩⟩ := hrel
    by_cases hlt : k < s.size
    · obtain ⟨b, hb, hbt, hb8⟩ := by8_at s k hlt
      have hn7 : n < 72057594037927936 := by
        rw [HN.out]
        have h := num_lt ((by8 s).take k) (fun b hb => by8_lt s b (List.mem_of_mem_take hb))
        have hk7 : ((by8 s).take k).length ≤ 7 := by rw [List.length_take, by8_length]; omega
        exact Nat.lt_of_lt_of_le h (Nat.le_trans (Nat.pow_le_pow_right (by decide) hk7) (by decide))
      have hx := or_byte n b hn7 hb
      have hm : 256 * n + b < 18446744073709551616 := by omega
      have dlt : decide ((k : Int) < (s.size : Int)) = true := decide_eq_true (by omega)
      have q6 : ((k : Int) < (s.size : Int)) = True := eq_true (by omega)
      go_wp2
      exact ⟨⟨k + 1, 256 * n + b, by omega, hm, Lib.hid (by rw [HN.out, num_take hb8]), by go_num, by first | rfl | go_num, ⟨_, rfl⟩⟩, by simp [intOf]; omega⟩
    · obtain rfl : k = s.size := by omega
      go_wp2
      go_ret
      refine ⟨?_, ⟨_, rfl⟩⟩
      have e : n = num (by8 s) := by rw [HN.out, List.take_of_length_le (by rw [by8_length]; exact Nat.le_refl _)]
      rw [← e]; rfl
set_option maxHeartbeats 4000000 in
set_option maxRecDepth 100000 in
theorem refnum_calls (s : ByteArray) (hs : s.size ≤ 8) (w : World) :
    Calls Try.prog 70 #[.string s] w fun e w' => e = .returned (.int .u64 (num (by8 s) : Nat)) ∧ Drawn0 w w' := by
  go_enter Try.func70, Try.ntmps70
  go_wp2
  go_loopw [3, 4] (fun x i wr => ∃ k n : Nat, k ≤ s.size ∧ n < 18446744073709551616 ∧ Hid (n = num ((by8 s).take k)) ∧ i = .int .i64 k ∧ x = .int .u64 n ∧ Drawn0 w wr) (fun _ i _ => s.size - (intOf i).toNat)
  case atStart => exact ⟨0, 0, Nat.zero_le _, by decide, Lib.hid (by simp [num_nil]), rfl, rfl, Drawn0.refl _⟩
  case round =>
    obtain ⟨k, n, hk, hn, HN, rfl, rfl, ⟨nd, rfl⟩⟩ := hrel
    by_cases hlt : k < s.size
    · obtain ⟨b, hb, hbt, hb8⟩ := by8_at s k hlt
      have hn7 : n < 72057594037927936 := by
        rw [HN.out]
        have h := num_lt ((by8 s).take k) (fun b hb => by8_lt s b (List.mem_of_mem_take hb))
        have hk7 : ((by8 s).take k).length ≤ 7 := by rw [List.length_take, by8_length]; omega
        exact Nat.lt_of_lt_of_le h (Nat.le_trans (Nat.pow_le_pow_right (by decide) hk7) (by decide))
      have hm : 256 * n + b < 18446744073709551616 := by omega
      have dlt : decide ((k : Int) < (s.size : Int)) = true := decide_eq_true (by omega)
      have q6 : ((k : Int) < (s.size : Int)) = True := eq_true (by omega)
      go_wp2
      exact ⟨⟨k + 1, 256 * n + b, by omega, hm, Lib.hid (by rw [HN.out, num_take hb8]), by go_num, by first | rfl | go_num, ⟨_, rfl⟩⟩, by simp [intOf]; omega⟩
    · obtain rfl : k = s.size := by omega
      go_wp2
      go_ret
      refine ⟨?_, ⟨_, rfl⟩⟩
      have e : n = num (by8 s) := by rw [HN.out, List.take_of_length_le (by rw [by8_length]; exact Nat.le_refl _)]
      rw [← e]; rfl
set_option maxHeartbeats 4000000 in
set_option maxRecDepth 100000 in
theorem refbig_calls (n k : Nat) (hn : n < 18446744073709551616) (hk8 : k ≤ 8) (w : World) :
    Calls Try.prog 39 #[.int .u64 (n : Nat), .int .i64 (k : Nat)] w fun e w' => e = .returned (.string (bts (big k n))) ∧ Below w.heap.size w w' := by
  obtain ⟨l, hl⟩ : ∃ l, l = big k n := ⟨_, rfl⟩
  have hlen : l.length = k := by rw [hl]; exact big_length k n
  have m0 : (Instr.makeSlice 48 (.int .i64 (k : Nat)) (.int .i64 (k : Nat))).run Try.prog w = .ok (.slice (some ⟨w.heap.size, 0, none⟩) k k) (w.alloc (.cells (vn (parb l k)) 5)) := by
    have := made8 w k (by omega)
    rw [zeros8] at this
    have e : parb l k = zeros k := by have := parb_none l; rw [hlen] at this; exact this
    rw [e]
    exact this
  rw [← hl]
  have HL := Lib.hid (And.intro hl hlen)
  have b0 := Blk.new w (vn (parb l k)) 5
  clear hl hlen
  go_enter Try.func39, Try.ntmps39
  go_wp2
  go_loopw [0, 6] (fun x i wr => ∃ j m : Nat, j ≤ k ∧ m < 18446744073709551616 ∧ Hid (m = n / 256 ^ (k - j)) ∧ x = .int .u64 m ∧ i = .int .i64 ((j : Int) - 1) ∧ Blk wr w.heap.size (vn (parb l j)) 5 ∧ Below w.heap.size w wr) (fun _ i _ => (intOf i + 1).toNat)
  case atStart => exact ⟨k, n, Nat.le_refl _, hn, Lib.hid (by simp), rfl, by first | rfl | go_num, b0, ba (br _) _⟩
  case round =>
    clear b0 m0
    obtain ⟨j, m, hj, hm, HM, rfl, rfl, b0, hbel⟩ := hrel
    cases j with
    | succ j =>
      have ej : ((j + 1 : Nat) : Int) - 1 = (j : Int) := by omega
      obtain ⟨z, hz⟩ := parb_at l (j + 1) j (by rw [HL.out.2]; omega)
      have c1 : wr.cell? ⟨w.heap.size, j, none⟩ = some (.int .u8 (z : Int)) := by rw [b0.cell]; exact hz
      have f1 : wr.frozen? ⟨w.heap.size, j, none⟩ = false := b0.frozen _
      have i0 : (0 : Int) ≤ (j : Int) := by omega
      have i1 : (j : Int) < (k : Int) := by omega
      have d0 : decide ((0 : Int) ≤ (j : Int)) = true := decide_eq_true i0
      have e3 := rem_byte m
      have HS := Lib.hid ((b0.set j (.int .u8 ((m % 256 : Nat) : Int))))
      have HB := Lib.hid hbel
      have hm2 : m / 256 < 18446744073709551616 := by omega
      rw [ej]
      clear hz b0 hbel
      go_wp2
      have hs := HS.out
      rw [parb_step (by rw [HL.out.1, big_at _ _ _ (by omega), HM.out, show k - (j + 1) = k - 1 - j by omega])] at hs
      exact ⟨⟨j, m / 256, by omega, hm2, Lib.hid (by rw [HM.out, Nat.div_div_eq_div_mul, ← Nat.pow_succ, show (k - (j + 1)).succ = k - j by omega]), by first | rfl | go_num, by first | rfl | go_num, hs, bs HB.out (Nat.le_refl _) _⟩, by simp [intOf]⟩
    | zero =>
      rw [parb_all] at b0
      have cv := conv_vn wr w.heap.size l k k HL.out.2 (by rw [HL.out.1]; exact big_lt _ _) b0
      have HB := Lib.hid hbel
      clear b0 hbel
      go_wp2
      go_ret
      exact ⟨rfl, HB.out⟩
end Go.Proofs.Ytmpbohbecidkhaa.Rec
