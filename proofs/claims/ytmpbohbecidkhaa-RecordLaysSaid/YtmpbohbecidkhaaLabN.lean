/- Numbers as bytes, walked: label.number, told, and the document's big and number. -/
import Derived.Test.YtmpbohbecidkhaaLabG
namespace Go.Proofs.Ytmpbohbecidkhaa.Lab
open Go.RowKit Go.Proofs.Ytmpbohbecidkhaa.Mem Go.Proofs.Ytmpbohbecidkhaa.Sep Go.Proofs.Ytmpbohbecidkhaa.Num Go.Proofs.Ytmpbohbecidkhaa.B8 Go.Proofs.Ytmpbohbecidkhaa.CrcS Go.Proofs.Ytmpbohbecidkhaa.Bits
open Go.Proofs.YtmpbohbecidkhaaW.PrintWords hiding bt
set_option linter.unusedVariables false
set_option linter.unusedSimpArgs false

/-! A row of bytes, filled from the front or from the back. -/
def vn (l : List Nat) : Array Value := (l.map fun (b : Nat) => Value.int .u8 (b : Int)).toArray
def part (l : List Nat) (k : Nat) : List Nat := (List.range l.length).map fun i => if i < k then l.getD i 0 else 0
def parb (l : List Nat) (k : Nat) : List Nat := (List.range l.length).map fun i => if i < k then 0 else l.getD i 0
theorem vn_at (l : List Nat) (k : Nat) : (vn l)[k]? = (l[k]?).map fun (b : Nat) => Value.int .u8 (b : Int) := by unfold vn; rw [List.getElem?_toArray, List.getElem?_map]
theorem part_at (l : List Nat) (k j : Nat) (h : j < l.length) : ∃ b : Nat, (vn (part l k))[j]? = some (.int .u8 (b : Int)) := by
  rw [vn_at]
  exact ⟨_, by unfold part; rw [List.getElem?_map, List.getElem?_range h]; rfl⟩
theorem parb_at (l : List Nat) (k j : Nat) (h : j < l.length) : ∃ b : Nat, (vn (parb l k))[j]? = some (.int .u8 (b : Int)) := by
  rw [vn_at]
  exact ⟨_, by unfold parb; rw [List.getElem?_map, List.getElem?_range h]; rfl⟩
theorem vn_set (l : List Nat) (k b : Nat) : (vn l).setIfInBounds k (.int .u8 (b : Int)) = vn (l.set k b) := by
  unfold vn
  rw [List.setIfInBounds_toArray]
  congr 1
  exact (List.map_set (f := fun (b : Nat) => Value.int .u8 (b : Int))).symm
theorem part_step {l : List Nat} {k b : Nat} (h : l[k]? = some b) : (vn (part l k)).setIfInBounds k (.int .u8 (b : Int)) = vn (part l (k + 1)) := by
  rw [vn_set]
  congr 1
  apply List.ext_getElem
  · simp [part]
  · intro n h1 h2
    rw [List.getElem_set]
    simp only [part, List.getElem_map, List.getElem_range]
    by_cases e : k = n
    · subst e
      rw [if_pos rfl, if_pos (by omega), List.getD_eq_getElem?_getD, h]; rfl
    · rw [if_neg e]
      by_cases h3 : n < k
      · rw [if_pos h3, if_pos (by omega)]
      · rw [if_neg h3, if_neg (by omega)]
theorem parb_step {l : List Nat} {k b : Nat} (h : l[k]? = some b) : (vn (parb l (k + 1))).setIfInBounds k (.int .u8 (b : Int)) = vn (parb l k) := by
  rw [vn_set]
  congr 1
  apply List.ext_getElem
  · simp [parb]
  · intro n h1 h2
    rw [List.getElem_set]
    simp only [parb, List.getElem_map, List.getElem_range]
    by_cases e : k = n
    · subst e
      rw [if_pos rfl, if_neg (by omega), List.getD_eq_getElem?_getD, h]; rfl
    · rw [if_neg e]
      by_cases h3 : n < k
      · rw [if_pos h3, if_pos (by omega)]
      · rw [if_neg h3, if_neg (by omega)]
theorem map_getD (l : List Nat) : (List.range l.length).map (fun i => l.getD i 0) = l := by
  apply List.ext_getElem
  · simp
  · intro n h1 h2
    simp only [List.getElem_map, List.getElem_range, List.getD_eq_getElem?_getD, List.getElem?_eq_getElem h2, Option.getD_some]
theorem part_all (l : List Nat) : part l l.length = l := by
  unfold part
  conv => rhs; rw [← map_getD l]
  exact List.map_congr_left fun i hi => by rw [if_pos (List.mem_range.1 hi)]
theorem parb_all (l : List Nat) : parb l 0 = l := by
  unfold parb
  conv => rhs; rw [← map_getD l]
  exact List.map_congr_left fun i hi => by rw [if_neg (by omega)]
theorem zeros8 (n : Nat) : cells8 (List.replicate n 0) = vn (zeros n) := by
  unfold cells8 vn zeros
  rw [List.map_replicate, List.map_replicate]; rfl
theorem part_none (l : List Nat) : part l 0 = zeros l.length := by
  unfold part zeros
  rw [List.eq_replicate_iff]
  simp
theorem parb_none (l : List Nat) : parb l l.length = zeros l.length := by
  unfold parb zeros
  rw [List.eq_replicate_iff]
  refine ⟨by simp, fun b hb => ?_⟩
  obtain ⟨i, hi, rfl⟩ := List.mem_map.1 hb
  rw [if_pos (List.mem_range.1 hi)]
theorem conv_vn (W : World) (b : Nat) (l : List Nat) (n c : Nat) (hn : l.length = n) (hl : ∀ b ∈ l, b < 256) (h : Blk W b (vn l) 5) : (convert 48 9 (.slice (some ⟨b, 0, none⟩) n c)).run Try.prog W = .ok (.string (bts l)) W := by
  have e : vn l = cells8 (l.map UInt8.ofNat) := (cells8_nat l hl).symm
  rw [e] at h
  exact conv8 W b (l.map UInt8.ofNat) n c (by simpa using hn) h
theorem or_byte (a b : Nat) (ha : a < 72057594037927936) (hb : b < 256) : Go.bits .or .u64 ((a : Int) * 256) (b : Int) = ((256 * a + b : Nat) : Int) := by
  have h := or_u64 (a * 256) b (by omega) (by omega)
  have e : a * 256 ||| b = a * 256 + b := by
    have := Nat.shiftLeft_add_eq_or_of_lt (i := 8) (b := b) hb a
    rw [Nat.shiftLeft_eq] at this
    exact this.symm
  rw [e] at h
  rw [show ((a : Int) * 256) = ((a * 256 : Nat) : Int) by omega, h]
  omega
theorem byte_at (n k j J : Nat) (hJ : J = k - 1 - j) : (n : Int) / 2 ^ (8 * J) % 256 = ((n / 256 ^ J % 256 : Nat) : Int) := by
  rw [show (2 : Int) ^ (8 * J) = ((256 ^ J : Nat) : Int) by rw [Int.pow_mul]; simp]
  simp
attribute [local irreducible] vn bts big num

set_option maxHeartbeats 4000000 in
set_option maxRecDepth 100000 in
theorem number_calls (n k : Nat) (hn : n < 18446744073709551616) (hk8 : k ≤ 8) (w : World) :
    Calls Try.prog 48 #[.int .u64 (n : Nat), .int .i64 (k : Nat)] w fun e w' => e = .returned (.string (bts (big k n))) ∧ Below w.heap.size w w' := by
  obtain ⟨l, hl⟩ : ∃ l, l = big k n := ⟨_, rfl⟩
  have hlen : l.length = k := by rw [hl]; exact big_length k n
  have m0 : (Instr.makeSlice 48 (.int .i64 (k : Nat)) (.int .i64 (k : Nat))).run Try.prog w = .ok (.slice (some ⟨w.heap.size, 0, none⟩) k k) (w.alloc (.cells (vn (part l 0)) 5)) := by
    have := made8 w k (by omega)
    rw [zeros8] at this
    rw [part_none, hlen]
    exact this
  rw [← hl]
  have HL := Lib.hid (And.intro hl hlen)
  have b0 := Blk.new w (vn (part l 0)) 5
  clear hl hlen
  go_enter Try.func48, Try.ntmps48
  go_wp2
  go_loopw [11] (fun i wr => ∃ j : Nat, j ≤ k ∧ i = .int .i64 j ∧ Blk wr w.heap.size (vn (part l j)) 5 ∧ Below w.heap.size w wr) (fun i _ => k - (intOf i).toNat)
  case atStart => exact ⟨0, by omega, rfl, b0, ba (br _) _⟩
  case round =>
    clear b0 m0
    obtain ⟨j, hj, rfl, b0, hbel⟩ := hrel
    by_cases hlt : j < k
    · have dlt : decide ((j : Int) < (k : Int)) = true := decide_eq_true (by omega)
      obtain ⟨J, hJ⟩ : ∃ J, J = k - 1 - j := ⟨_, rfl⟩
      obtain ⟨z, hz⟩ := part_at l j j (by rw [HL.out.2]; exact hlt)
      have c1 : wr.cell? ⟨w.heap.size, j, none⟩ = some (.int .u8 (z : Int)) := by rw [b0.cell]; exact hz
      have f1 : wr.frozen? ⟨w.heap.size, j, none⟩ = false := b0.frozen _
      have e1 : (k : Int) - 1 - (j : Int) = (J : Int) := by omega
      have e2 : ((8 : Int) * (J : Int)).toNat = 8 * J := by omega
      have e4 : IntKind.i64.wrap ((8 : Int) * (J : Int)) = 8 * (J : Int) := IntWalk.i64_in _ (by omega)
      have hJ8 : (8 : Int) * (J : Int) ≤ 64 := by omega
      have hJ0 : (0 : Int) ≤ (8 : Int) * (J : Int) := by omega
      have e3 := byte_at n k j J hJ
      have i0 : (0 : Int) ≤ (j : Int) := by omega
      have i1 : (j : Int) < (k : Int) := by omega
      have HS := Lib.hid ((b0.set j (.int .u8 ((n / 256 ^ J % 256 : Nat) : Int))))
      have HJ := Lib.hid hJ
      have HB := Lib.hid hbel
      clear hz hJ b0 hbel
      go_wp2
      have hs := HS.out
      rw [part_step (by rw [HL.out.1, big_at _ _ _ hlt, HJ.out])] at hs
      exact ⟨⟨j + 1, by omega, by go_num, hs, bs HB.out (Nat.le_refl _) _⟩, by simp [intOf]; omega⟩
    · obtain rfl : j = k := by omega
      have dlt : decide ((j : Int) < (j : Int)) = false := decide_eq_false (by omega)
      have hp : part l j = l := by have := part_all l; rw [HL.out.2] at this; exact this
      rw [hp] at b0
      have cv := conv_vn wr w.heap.size l j j HL.out.2 (by rw [HL.out.1]; exact big_lt _ _) b0
      have HB := Lib.hid hbel
      clear b0 hbel hp
      go_wp2
      go_ret
      exact ⟨rfl, HB.out⟩
set_option maxHeartbeats 4000000 in
set_option maxRecDepth 100000 in
theorem told_calls (s : ByteArray) (hs : s.size ≤ 8) (w : World) :
    Calls Try.prog 54 #[.string s] w fun e w' => e = .returned (.int .u64 (num (by8 s) : Nat)) ∧ Drawn0 w w' := by
  go_enter Try.func54, Try.ntmps54
  go_wp2
  go_loopw [3, 7] (fun x i wr => ∃ k n : Nat, k ≤ s.size ∧ n < 18446744073709551616 ∧ Hid (n = num ((by8 s).take k)) ∧ i = .int .i64 k ∧ x = .int .u64 n ∧ Drawn0 w wr) (fun _ i _ => s.size - (intOf i).toNat)
  case atStart => exact ⟨0, 0, Nat.zero_le _, by decide, Lib.hid (by simp [num_nil]), rfl, rfl, Drawn0.refl _⟩
  case round =>
    obtain ⟨k, n, hk, hn, HN, rfl, rfl, ⟨nd, rfl⟩⟩ := hrel
    by_cases hlt : k < s.size
    · obtain ⟨b, hb, hbt, hb8⟩ := by8_at s k hlt
      have hn7 : n < 72057594037927936 := by
        rw [HN.out]
        have h := num_lt ((by8 s).take k) (fun b hb => by8_lt s b (List.mem_of_mem_take hb))
        have hk7 : ((by8 s).take k).length ≤ 7 := by rw [List.length_take, by8_length]; omega
        exact Nat.lt_of_lt_of_le h (Nat.le_trans (Nat.pow_le_pow_right (by decide) hk7) (by decide))
      have hx := or_byte n b hn7 hb
      have hm : 256 * n + b < 18446744073709551616 := by omega
      have dlt : decide ((k : Int) < (s.size : Int)) = true := decide_eq_true (by omega)
      have q6 : ((k : Int) < (s.size : Int)) = True := eq_true (by omega)
      go_wp2
      exact ⟨⟨k + 1, 256 * n + b, by omega, hm, Lib.hid (by rw [HN.out, num_take hb8]), by go_num, by first | rfl | go_num, ⟨_, rfl⟩⟩, by simp [intOf]; omega⟩
    · obtain rfl : k = s.size := by omega
      go_wp2
      go_ret
      refine ⟨?_, ⟨_, rfl⟩⟩
      have e : n = num (by8 s) := by rw [HN.out, List.take_of_length_le (by rw [by8_length]; exact Nat.le_refl _)]
      rw [← e]; rfl
set_option maxHeartbeats 4000000 in
set_option maxRecDepth 100000 in
theorem num_calls (s : ByteArray) (hs : s.size ≤ 8) (w : World) :
    Calls Try.prog 55 #[.string s] w fun e w' => e = .returned (.int .u64 (num (by8 s) : Nat)) ∧ Drawn0 w w' := by
  go_enter Try.func55, Try.ntmps55
  go_wp2
  go_loopw [3, 4] (fun x i wr => ∃ k n : Nat, k ≤ s.size ∧ n < 18446744073709551616 ∧ Hid (n = num ((by8 s).take k)) ∧ i = .int .i64 k ∧ x = .int .u64 n ∧ Drawn0 w wr) (fun _ i _ => s.size - (intOf i).toNat)
  case atStart => exact ⟨0, 0, Nat.zero_le _, by decide, Lib.hid (by simp [num_nil]), rfl, rfl, Drawn0.refl _⟩
  case round =>
    obtain ⟨k, n, hk, hn, HN, rfl, rfl, ⟨nd, rfl⟩⟩ := hrel
    by_cases hlt : k < s.size
    · obtain ⟨b, hb, hbt, hb8⟩ := by8_at s k hlt
      have hn7 : n < 72057594037927936 := by
        rw [HN.out]
        have h := num_lt ((by8 s).take k) (fun b hb => by8_lt s b (List.mem_of_mem_take hb))
        have hk7 : ((by8 s).take k).length ≤ 7 := by rw [List.length_take, by8_length]; omega
        exact Nat.lt_of_lt_of_le h (Nat.le_trans (Nat.pow_le_pow_right (by decide) hk7) (by decide))
      have hm : 256 * n + b < 18446744073709551616 := by omega
      have dlt : decide ((k : Int) < (s.size : Int)) = true := decide_eq_true (by omega)
      have q6 : ((k : Int) < (s.size : Int)) = True := eq_true (by omega)
      go_wp2
      exact ⟨⟨k + 1, 256 * n + b, by omega, hm, Lib.hid (by rw [HN.out, num_take hb8]), by go_num, by first | rfl | go_num, ⟨_, rfl⟩⟩, by simp [intOf]; omega⟩
    · obtain rfl : k = s.size := by omega
      go_wp2
      go_ret
      refine ⟨?_, ⟨_, rfl⟩⟩
      have e : n = num (by8 s) := by rw [HN.out, List.take_of_length_le (by rw [by8_length]; exact Nat.le_refl _)]
      rw [← e]; rfl
theorem rem_byte (n : Nat) : (n : Int) % 256 % 256 = ((n % 256 : Nat) : Int) := by omega
set_option maxHeartbeats 4000000 in
set_option maxRecDepth 100000 in
theorem big_calls (n k : Nat) (hn : n < 18446744073709551616) (hk8 : k ≤ 8) (w : World) :
    Calls Try.prog 51 #[.int .u64 (n : Nat), .int .i64 (k : Nat)] w fun e w' => e = .returned (.slice (some ⟨w.heap.size, 0, none⟩) k k) ∧ Blk w' w.heap.size (vn (big k n)) 5 ∧ Below w.heap.size w w' := by
  obtain ⟨l, hl⟩ : ∃ l, l = big k n := ⟨_, rfl⟩
  have hlen : l.length = k := by rw [hl]; exact big_length k n
  have m0 : (Instr.makeSlice 48 (.int .i64 (k : Nat)) (.int .i64 (k : Nat))).run Try.prog w = .ok (.slice (some ⟨w.heap.size, 0, none⟩) k k) (w.alloc (.cells (vn (parb l k)) 5)) := by
    have := made8 w k (by omega)
    rw [zeros8] at this
    have e : parb l k = zeros k := by have := parb_none l; rw [hlen] at this; exact this
    rw [e]
    exact this
  rw [← hl]
  have HL := Lib.hid (And.intro hl hlen)
  have b0 := Blk.new w (vn (parb l k)) 5
  clear hl hlen
  go_enter Try.func51, Try.ntmps51
  go_wp2
  go_loopw [0, 6] (fun x i wr => ∃ j m : Nat, j ≤ k ∧ m < 18446744073709551616 ∧ Hid (m = n / 256 ^ (k - j)) ∧ x = .int .u64 m ∧ i = .int .i64 ((j : Int) - 1) ∧ Blk wr w.heap.size (vn (parb l j)) 5 ∧ Below w.heap.size w wr) (fun _ i _ => (intOf i + 1).toNat)
  case atStart => exact ⟨k, n, Nat.le_refl _, hn, Lib.hid (by simp), rfl, by first | rfl | go_num, b0, ba (br _) _⟩
  case round =>
    clear b0 m0
    obtain ⟨j, m, hj, hm, HM, rfl, rfl, b0, hbel⟩ := hrel
    cases j with
    | succ j =>
      have ej : ((j + 1 : Nat) : Int) - 1 = (j : Int) := by omega
      obtain ⟨z, hz⟩ := parb_at l (j + 1) j (by rw [HL.out.2]; omega)
      have c1 : wr.cell? ⟨w.heap.size, j, none⟩ = some (.int .u8 (z : Int)) := by rw [b0.cell]; exact hz
      have f1 : wr.frozen? ⟨w.heap.size, j, none⟩ = false := b0.frozen _
      have i0 : (0 : Int) ≤ (j : Int) := by omega
      have i1 : (j : Int) < (k : Int) := by omega
      have d0 : decide ((0 : Int) ≤ (j : Int)) = true := decide_eq_true i0
      have e3 := rem_byte m
      have HS := Lib.hid ((b0.set j (.int .u8 ((m % 256 : Nat) : Int))))
      have HB := Lib.hid hbel
      have hm2 : m / 256 < 18446744073709551616 := by omega
      rw [ej]
      clear hz b0 hbel
      go_wp2
      have hs := HS.out
      rw [parb_step (by rw [HL.out.1, big_at _ _ _ (by omega), HM.out, show k - (j + 1) = k - 1 - j by omega])] at hs
      exact ⟨⟨j, m / 256, by omega, hm2, Lib.hid (by rw [HM.out, Nat.div_div_eq_div_mul, ← Nat.pow_succ, show (k - (j + 1)).succ = k - j by omega]), by first | rfl | go_num, by first | rfl | go_num, hs, bs HB.out (Nat.le_refl _) _⟩, by simp [intOf]⟩
    | zero =>
      rw [parb_all] at b0
      have HB := Lib.hid (And.intro b0 hbel)
      clear b0 hbel
      go_wp2
      go_ret
      exact ⟨rfl, HB.out⟩
end Go.Proofs.Ytmpbohbecidkhaa.Lab
