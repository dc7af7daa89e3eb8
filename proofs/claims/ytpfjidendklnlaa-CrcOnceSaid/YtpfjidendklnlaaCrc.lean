/- crc.Table walked: matrices, a new one, its tables made, once, and what is read of them. -/
import Derived.Test.YtpfjidendklnlaaCrcMem
import Derived.Test.YtpfjidendklnlaaCrcSlow
import Derived.Test.YtpfjidendklnlaaSync
import Derived.Deep.QuietTactic
import Derived.BigQuiet
import Derived.Deep.MidRow
import Derived.Deep.RegionHeld3
namespace Go.Proofs.Ytpfjidendklnlaa.Crc
open Go.RowKit Go.Proofs.Ytpfjidendklnlaa.Mem Go.Proofs.Ytpfjidendklnlaa.CrcA Go.Proofs.Ytpfjidendklnlaa.CrcS Go.Proofs.Ytpfjidendklnlaa.Bits
open Go.Proofs.YtpfjidendklnlaaW.PrintWords hiding bt
set_option linter.unusedVariables false
set_option linter.unusedSimpArgs false

theorem times_lt (M : Nat → Nat) (hM : ∀ i, i < 32 → M i < 4294967296) (r : Nat) : ∀ n, n ≤ 32 → times M r n < 4294967296
  | 0, _ => by unfold times; decide
  | n + 1, h => by
    unfold times
    refine Nat.xor_lt_two_pow (n := 32) (times_lt M hM r n (by omega)) ?_
    split
    · exact hM n (by omega)
    · decide
theorem times_stop (M : Nat → Nat) (r k : Nat) (h : r / 2 ^ k = 0) : ∀ n, times M r (k + n) = times M r k
  | 0 => rfl
  | n + 1 => by
    rw [show k + (n + 1) = (k + n) + 1 from rfl, times]
    have hb : r.testBit (k + n) = false := by
      apply Nat.testBit_lt_two_pow
      have : r < 2 ^ k := (Nat.div_eq_zero_iff_lt (Nat.two_pow_pos k)).1 h
      exact Nat.lt_of_lt_of_le this (Nat.pow_le_pow_right (by decide) (by omega))
    rw [hb, times_stop M r k h n]; simp
theorem times_step (M : Nat → Nat) (r k : Nat) : times M r (k + 1) = if r / 2 ^ k % 2 = 1 then times M r k ^^^ M k else times M r k := by
  show times M r k ^^^ _ = _
  rw [half_bit]
  cases r.testBit k <;> simp

theorem times_zero (M : Nat → Nat) (r : Nat) : times M r 0 = 0 := rfl
attribute [local irreducible] times

set_option maxHeartbeats 4000000 in
set_option maxRecDepth 100000 in
theorem times_calls (b o : Nat) (M : Nat → Nat) (hM : ∀ i, i < 32 → M i < 4294967296) (r : Nat) (hr : r < 4294967296) (w : World) (hc : ∀ i, i < 32 → w.cell? ⟨b, o + i, none⟩ = some (.int .u32 (M i : Nat))) :
    Calls Try.prog 44 #[.pointer (some ⟨b, o, none⟩), .int .u32 r] w fun e w' => e = .returned (.int .u32 (times M r 32 : Nat)) ∧ Drawn0 w w' := by
  have HM := Lib.hid hM
  have HC := Lib.hid hc
  clear hM hc
  have h0 := times_zero M r
  have H0 := Lib.hid h0
  clear h0
  go_enter Try.func44, Try.ntmps44
  go_wp2
  go_loopw [1, 5, 6] (fun x1 x5 x6 wr => ∃ k n m : Nat, k ≤ 32 ∧ n < 4294967296 ∧ m < 4294967296 ∧ Hid (n = r / 2 ^ k ∧ m = times M r k) ∧ x1 = .int .u32 n ∧ x5 = .int .u32 m ∧ x6 = .int .i64 k ∧ Drawn0 w wr) (fun _ _ i _ => 32 - (intOf i).toNat)
  case atStart => exact ⟨0, r, 0, by omega, hr, by omega, Lib.hid ⟨by simp, H0.out.symm⟩, rfl, rfl, rfl, Drawn0.refl _⟩
  case round =>
    obtain ⟨k, n, m, hk, hn, hm, HX, rfl, rfl, rfl, ⟨nd, rfl⟩⟩ := hrel
    by_cases h0 : n = 0
    · subst h0
      have e : times M r 32 = m := by
        have := times_stop M r k HX.out.1.symm (32 - k)
        rw [HX.out.2, ← this]; congr 1; omega
      have E := Lib.hid e
      clear e
      go_wp2
      go_ret
      exact ⟨by rw [E.out]; rfl, ⟨_, rfl⟩⟩
    · have hk32 : k < 32 := by
        rcases Nat.lt_or_ge k 32 with h | h
        · exact h
        · exfalso
          obtain rfl : k = 32 := by omega
          exact h0 (HX.out.1.trans (Nat.div_eq_of_lt (by omega)))
      have q0 : ((n : Int) == 0) = false := beq_eq_false_iff_ne.2 (by omega)
      have q1 : ((n : Int) != 0) = true := bne_iff_ne.2 (by omega)
      have ho := odd_u32 n hn
      have h2 : n / 2 = r / 2 ^ (k + 1) := by rw [HX.out.1, Nat.div_div_eq_div_mul, Nat.pow_succ]
      have H2 := Lib.hid h2
      have hMk := HM.out k hk32
      have hck : w.cell? ⟨b, o + k, none⟩ = some (.int .u32 (M k : Nat)) := HC.out k hk32
      clear h2
      rcases Nat.mod_two_eq_zero_or_one n with h | h
      · have hs : times M r (k + 1) = m := by rw [times_step, ← HX.out.1, ← HX.out.2, if_neg (by omega)]
        have HS := Lib.hid hs
        rw [h] at ho
        clear hs h
        go_wp2
        exact ⟨⟨k + 1, n / 2, m, by omega, by omega, hm, Lib.hid ⟨H2.out, HS.out.symm⟩, by go_num, rfl, by go_num, ⟨_, rfl⟩⟩, by simp [intOf]; omega⟩
      · have hs : times M r (k + 1) = m ^^^ M k := by rw [times_step, ← HX.out.1, ← HX.out.2, if_pos h]
        have HS := Lib.hid hs
        rw [h] at ho
        clear hs h
        have hx := xor_u32 m (M k) hm hMk
        have hlt : m ^^^ M k < 4294967296 := Nat.xor_lt_two_pow (n := 32) hm hMk
        go_wp2
        exact ⟨⟨k + 1, n / 2, m ^^^ M k, by omega, by omega, hlt, Lib.hid ⟨H2.out, HS.out.symm⟩, by go_num, rfl, by go_num, ⟨_, rfl⟩⟩, by simp [intOf]; omega⟩

def sqL (M : Nat → Nat) (k : Nat) : List Int := (List.range 32).map fun j => if j < k then ((times M (M j) 32 : Nat) : Int) else 0
def sqC (M : Nat → Nat) (k : Nat) : Array Value := ((sqL M k).map (Value.int .u32)).toArray
theorem sqL_length (M : Nat → Nat) (k : Nat) : (sqL M k).length = 32 := by simp [sqL]
theorem sqC_size (M : Nat → Nat) (k : Nat) : (sqC M k).size = 32 := by simp [sqC, sqL]
theorem sqC_at (M : Nat → Nat) (k j : Nat) (h : j < 32) : ∃ z : Int, (sqC M k)[j]? = some (.int .u32 z) := by
  refine ⟨(sqL M k)[j]'(by rw [sqL_length]; exact h), ?_⟩
  unfold sqC
  rw [List.getElem?_toArray, List.getElem?_map, List.getElem?_eq_getElem (by rw [sqL_length]; exact h)]
  rfl
theorem sqC_one (M : Nat → Nat) (k : Nat) : (sqC M k).all (·.oneCell') = true := by
  refine Array.all_eq_true_iff_forall_mem.2 (fun v hv => ?_)
  unfold sqC at hv
  simp only [List.mem_toArray, List.mem_map] at hv
  obtain ⟨z, _, rfl⟩ := hv
  rfl
theorem sqC_step (M : Nat → Nat) (k : Nat) : (sqC M k).setIfInBounds k (.int .u32 (times M (M k) 32 : Nat)) = sqC M (k + 1) := by
  unfold sqC
  rw [List.setIfInBounds_toArray]
  congr 1
  rw [← List.map_set (f := Value.int .u32)]
  congr 1
  apply List.ext_getElem
  · simp [sqL]
  · intro n h1 h2
    rw [List.getElem_set]
    simp only [sqL, List.getElem_map, List.getElem_range]
    by_cases h : k = n
    · subst h
      rw [if_pos rfl, if_pos (by omega)]
    · rw [if_neg h]
      by_cases h3 : n < k
      · rw [if_pos h3, if_pos (by omega)]
      · rw [if_neg h3, if_neg (by omega)]
theorem sqC_zero (M : Nat → Nat) : sqC M 0 = #[.int .u32 0, .int .u32 0, .int .u32 0, .int .u32 0, .int .u32 0, .int .u32 0, .int .u32 0, .int .u32 0, .int .u32 0, .int .u32 0, .int .u32 0, .int .u32 0, .int .u32 0, .int .u32 0, .int .u32 0, .int .u32 0, .int .u32 0, .int .u32 0, .int .u32 0, .int .u32 0, .int .u32 0, .int .u32 0, .int .u32 0, .int .u32 0, .int .u32 0, .int .u32 0, .int .u32 0, .int .u32 0, .int .u32 0, .int .u32 0, .int .u32 0, .int .u32 0] := by
  have h : sqL M 0 = List.replicate 32 0 := by
    apply List.ext_getElem
    · simp [sqL]
    · intro n h1 h2
      rw [List.getElem_replicate]; simp only [sqL, List.getElem_map, Nat.not_lt_zero, if_false]
  unfold sqC
  rw [h]
  rfl

set_option maxHeartbeats 4000000 in
set_option maxRecDepth 100000 in
theorem square_calls (b o : Nat) (M : Nat → Nat) (hM : ∀ i, i < 32 → M i < 4294967296) (w : World) (hb : b < w.heap.size) (hc : ∀ i, i < 32 → w.cell? ⟨b, o + i, none⟩ = some (.int .u32 (M i : Nat))) :
    Calls Try.prog 69 #[.pointer (some ⟨b, o, none⟩)] w fun e w' => e = .returned (.agg (sqC M 32)) ∧ Below w.heap.size w w' := by
  have HM := Lib.hid hM
  have HC := Lib.hid hc
  clear hM hc
  go_enter Try.func69, Try.ntmps69
  go_wp2
  rw [← sqC_zero M]
  have b0 : Blk ((w.alloc (.cells (sqC M 0) 99)).alloc (.cells (sqC M 0) 99)) w.heap.size (sqC M 0) 99 := (Blk.new _ _ _).alloc _
  have b1 : Blk ((w.alloc (.cells (sqC M 0) 99)).alloc (.cells (sqC M 0) 99)) (w.heap.size + 1) (sqC M 0) 99 := by
    have := Blk.new (w.alloc (.cells (sqC M 0) 99)) (sqC M 0) 99
    rw [show (w.alloc (.cells (sqC M 0) 99)).heap.size = w.heap.size + 1 by simp] at this
    exact this
  go_loopw [5] (fun i wr => ∃ k : Nat, k ≤ 32 ∧ i = .int .i64 k ∧ Blk wr w.heap.size (sqC M 0) 99 ∧ Blk wr (w.heap.size + 1) (sqC M k) 99 ∧ Below w.heap.size w wr) (fun i _ => 32 - (intOf i).toNat)
  case atStart => exact ⟨0, by omega, rfl, b0, b1, ba (ba (br _) _) _⟩
  case round =>
    clear b0 b1
    obtain ⟨k, hk, rfl, b0, b1, hbel⟩ := hrel
    by_cases hlt : k < 32
    · have hck : wr.cell? ⟨b, o + k, none⟩ = some (.int .u32 (M k : Nat)) := by rw [hbel.cell hb]; exact HC.out k hlt
      obtain ⟨z, hz⟩ := sqC_at M k k hlt
      have c1 : wr.cell? ⟨w.heap.size + 1, k, none⟩ = some (.int .u32 z) := by rw [b1.cell]; exact hz
      have f1 : wr.frozen? ⟨w.heap.size + 1, k, none⟩ = false := b1.frozen _
      clear hz
      go_wp2_with fail
      refine (times_calls b o M HM.out (M k) (HM.out k hlt) _ (fun i hi => by rw [hbel.cell hb]; exact HC.out i hi)).mono ?_
      rintro e w1 ⟨rfl, ⟨nd, rfl⟩⟩
      go_wp2
      have hs := (b1.drewN nd).set k (.int .u32 (times M (M k) 32 : Nat))
      rw [sqC_step] at hs
      exact ⟨⟨k + 1, by omega, by go_num, (b0.drewN nd).setOther (by show w.heap.size + 1 ≠ w.heap.size; omega) _, hs, bs (bd hbel nd) (by show w.heap.size ≤ w.heap.size + 1; omega) _⟩, by simp [intOf]; omega⟩
    · obtain rfl : k = 32 := by omega
      have hr0 := b1.rangeAt 0 (sqC M 32).toList (fun j v hj => by rw [Nat.zero_add]; simpa using hj)
      have hth := b0.there 0 (sqC M 32).size (by rw [sqC_size, sqC_size]; omega)
      have hone := sqC_one M 32
      have hi1 : (Try.prog.info? 99).map (·.size) = some (sqC M 32).toList.length := by rw [Array.length_toList, sqC_size]; kernel_rfl
      have hi2 : (Try.prog.info? 99).map (·.size) = some (sqC M 32).size := by rw [sqC_size]; kernel_rfl
      have hu : Try.prog.underlying 99 = some (.array 32 22) := by kernel_rfl
      have HI := Lib.hid (And.intro hi1 (And.intro hi2 (And.intro hu (And.intro hone (And.intro hr0 hth)))))
      clear hi1 hi2 hu hone hr0 hth
      go_wp2_with (first | (refine wpList_load_mid ?_ 99 (.tmp 3) ?_ (w.heap.size + 1) 0 ?_ (sqC M 32).toList (.array 32 22) HI.out.2.2.2.2.1 HI.out.2.2.1 rfl HI.out.1 ?_; exact rfl; exact rfl; exact rfl) | (refine wpList_store_mid ?_ 99 (.tmp 2) (.tmp 18) ?_ w.heap.size 0 (sqC M 32) ?_ ?_ HI.out.2.2.2.2.2 HI.out.2.1 HI.out.2.2.2.1 ?_; exact rfl; exact rfl; exact rfl; exact rfl))
      (try simp only [Exit.inBlock, Exit.then])
      have b2 := Mem.Blk.setCells (sqC M 32).toList wr _ 0 b0
      rw [putAll_all _ _ (by rw [sqC_size, sqC_size]) ] at b2
      refine bodyPost_ret (results_cell_row (p := 2) (by rfl) _ _ w.heap.size 99 (sqC M 32) (0, 0) _ (by rfl) b2 HI.out.2.2.1 rfl HI.out.2.1) (by rfl) ?_
      exact ⟨rfl, bsc hbel (Nat.le_refl _) _ _⟩

/-! The tables. -/
def byL (k : Nat) : List Int := (List.range 256).map fun j => if j < k then ((stpN 8 j : Nat) : Int) else 0
/-- How many of all columns are there. -/
def gapL (n : Nat) : List Int := (List.range 2016).map fun j => if j < n then ((col (8 * 2 ^ (j / 32)) (j % 32) : Nat) : Int) else 0
theorem byL_length (k : Nat) : (byL k).length = 256 := by simp [byL]
theorem gapL_length (k : Nat) : (gapL k).length = 2016 := by simp [gapL]
theorem byL_step (k : Nat) : (byL k).set k ((stpN 8 k : Nat) : Int) = byL (k + 1) := by
  apply List.ext_getElem
  · simp [byL]
  · intro n h1 h2
    rw [List.getElem_set]
    simp only [byL, List.getElem_map, List.getElem_range]
    by_cases h : k = n
    · subst h
      rw [if_pos rfl, if_pos (by omega)]
    · rw [if_neg h]
      by_cases h3 : n < k
      · rw [if_pos h3, if_pos (by omega)]
      · rw [if_neg h3, if_neg (by omega)]
theorem gapL_step (k : Nat) : (gapL k).set k ((col (8 * 2 ^ (k / 32)) (k % 32) : Nat) : Int) = gapL (k + 1) := by
  apply List.ext_getElem
  · simp [gapL]
  · intro n h1 h2
    rw [List.getElem_set]
    simp only [gapL, List.getElem_map, List.getElem_range]
    by_cases h : k = n
    · subst h
      rw [if_pos rfl, if_pos (by omega)]
    · rw [if_neg h]
      by_cases h3 : n < k
      · rw [if_pos h3, if_pos (by omega)]
      · rw [if_neg h3, if_neg (by omega)]
theorem byL_at (k j : Nat) (h : j < k) (hk : k ≤ 256) : (byL k).getD j 0 = ((stpN 8 j : Nat) : Int) := by
  rw [List.getD_eq_getElem?_getD, List.getElem?_eq_getElem (by rw [byL_length]; omega)]
  simp [byL, h]
theorem gapL_at (n k i : Nat) (hi : i < 32) (h : 32 * k + i < n) (hn : n ≤ 2016) : (gapL n).getD (32 * k + i) 0 = ((col (8 * 2 ^ k) i : Nat) : Int) := by
  rw [List.getD_eq_getElem?_getD, List.getElem?_eq_getElem (by rw [gapL_length]; omega)]
  have e1 : (32 * k + i) / 32 = k := by omega
  have e2 : (32 * k + i) % 32 = i := by omega
  simp only [gapL, List.getElem_map, List.getElem_range, if_pos h, e1, e2, Option.getD_some]
theorem col_lt (n i : Nat) (hi : i < 32) : col n i < 4294967296 := stpN_lt n _ (Nat.lt_of_lt_of_le (Nat.pow_lt_pow_right (by decide) hi) (by decide))
theorem col8 (k : Nat) (hk : k < 32) : col 8 k = stpN 8 (2 ^ k % 256) ^^^ 2 ^ k / 256 := by
  have h := byt_table (2 ^ k) 0 (Nat.lt_of_lt_of_le (Nat.pow_lt_pow_right (by decide) hk) (by decide)) (by decide)
  rw [Nat.xor_zero] at h
  rw [← h, ← byt_def, Nat.xor_zero]; rfl

theorem gap_row (q : Nat) (hq : q + 1 < 63) : setRow (gapL (32 * (q + 1))) ((q + 1) * 32) (sqL (fun i => col (8 * 2 ^ q) i) 32) = gapL (32 * (q + 1 + 1)) := by
  apply List.ext_getElem?
  intro j
  rw [setRow_at _ _ _ _ (by rw [sqL_length, gapL_length]; omega), sqL_length]
  by_cases h : (q + 1) * 32 ≤ j ∧ j < (q + 1) * 32 + 32
  · rw [if_pos h, List.getElem?_eq_getElem (by rw [sqL_length]; omega), List.getElem?_eq_getElem (by rw [gapL_length]; omega)]
    have h1 : j - (q + 1) * 32 < 32 := by omega
    have h2 : j < 32 * (q + 1 + 1) := by omega
    have e1 : j / 32 = q + 1 := by omega
    have e2 : j % 32 = j - (q + 1) * 32 := by omega
    simp only [sqL, gapL, List.getElem_map, List.getElem_range, if_pos h1, if_pos h2, e1, e2]
    have e3 := col_square (8 * 2 ^ q) (j - (q + 1) * 32) h1
    rw [show 8 * 2 ^ (q + 1) = 2 * (8 * 2 ^ q) by rw [Nat.pow_succ]; omega, ← e3]
  · rw [if_neg h]
    by_cases h3 : j < 2016
    · rw [List.getElem?_eq_getElem (by rw [gapL_length]; omega), List.getElem?_eq_getElem (by rw [gapL_length]; omega)]
      simp only [gapL, List.getElem_map, List.getElem_range]
      by_cases h4 : j < 32 * (q + 1)
      · rw [if_pos h4, if_pos (by omega)]
      · rw [if_neg h4, if_neg (by omega)]
    · rw [List.getElem?_eq_none (by rw [gapL_length]; omega), List.getElem?_eq_none (by rw [gapL_length]; omega)]
theorem sqC_list (M : Nat → Nat) (k : Nat) : (sqC M k).toList = (sqL M k).map (Value.int .u32) := rfl

attribute [local irreducible] col byL gapL tcells

set_option maxHeartbeats 4000000 in
set_option maxRecDepth 100000 in
theorem make_calls (b : Nat) (T : TypeId) (d s : Int) (w : World) (h : Blk w b (tcells d s 0 (byL 0) (gapL 0)) T) :
    Calls Try.prog 57 #[.pointer (some ⟨b, 0, none⟩)] w fun e w' => e = .returned (.tuple #[]) ∧ (Blk w' b (tcells d s 1 (byL 256) (gapL 2016)) T ∧ Keep (· = b) w w') := by
  go_enter Try.func57, Try.ntmps57
  go_wp2
  go_loopw [7] (fun i wr => ∃ k : Nat, k ≤ 256 ∧ i = .int .i64 k ∧ Blk wr b (tcells d s 0 (byL k) (gapL 0)) T ∧ Keep (· = b) w wr) (fun i _ => 256 - (intOf i).toNat)
  case atStart => exact ⟨0, by omega, rfl, h, Keep.refl _ _⟩
  case round =>
    clear h
    obtain ⟨k, hk, rfl, hb, hkeep⟩ := hrel
    by_cases hlt : k < 256
    · have hw : (k : Int) % 4294967296 = k := by omega
      have dlt : decide ((k : Int) < 256) = true := decide_eq_true (by omega)
      go_wp2
      go_loopw [3, 12] (fun x i wr => ∃ j m : Nat, j ≤ 8 ∧ m < 4294967296 ∧ Hid (m = stpN j k) ∧ i = .int .i64 j ∧ x = .int .u32 m ∧ Blk wr b (tcells d s 0 (byL k) (gapL 0)) T ∧ Keep (· = b) w wr) (fun _ i _ => 8 - (intOf i).toNat)
      case atStart => exact ⟨0, k, by omega, by omega, Lib.hid (stpN_at0 _).symm, rfl, rfl, hb, hkeep⟩
      case round =>
        clear hb hkeep
        obtain ⟨j, m, hj, hm, HM, rfl, rfl, hb, hkeep⟩ := hrel
        by_cases hl : j < 8
        · go_wp2_with fail
          refine (step_calls m hm _).mono ?_
          rintro e w1 ⟨rfl, ⟨nd3, rfl⟩⟩
          go_wp2
          go_roundw
          case measure => simp [intOf]; omega
          case rel => exact ⟨j + 1, stp m, by omega, stp_lt _ hm, Lib.hid (by rw [HM.out, stpN_succ]), by go_num, rfl, hb.drewN _, hkeep.drewN _⟩
        · obtain rfl : j = 8 := by omega
          have c1 : wr.cell? ⟨b, 4 + k, none⟩ = some (.int .u32 ((byL k).getD k 0)) := by rw [hb.cell, cells_byte _ _ _ _ _ k (by rw [byL_length]; exact hlt)]
          have z1 : wr.frozen? ⟨b, 4 + k, none⟩ = false := hb.frozen _
          go_wp2
          have hs := hb.set (4 + k) (.int .u32 m)
          rw [set_byte _ _ _ _ _ k (by rw [byL_length]; exact hlt), HM.out, byL_step k, ← HM.out] at hs
          go_roundw
          case measure => simp [intOf]; omega
          case rel => exact ⟨k + 1, by omega, by go_num, hs, hkeep.setCell (p := ⟨b, 4 + k, none⟩) (.inl rfl) _⟩
    · obtain rfl : k = 256 := by omega
      go_wp2
      simp only [Int.cast_ofNat_Int]
      go_loopw [24] (fun i wr => ∃ k : Nat, k ≤ 32 ∧ i = .int .i64 k ∧ Blk wr b (tcells d s 0 (byL 256) (gapL k)) T ∧ Keep (· = b) w wr) (fun i _ => 32 - (intOf i).toNat)
      case atStart => exact ⟨0, by omega, rfl, hb, hkeep⟩
      case round =>
        clear hb hkeep
        obtain ⟨k, hk, rfl, hb, hkeep⟩ := hrel
        by_cases hlt : k < 32
        · obtain ⟨p, hp⟩ : ∃ p : Nat, p = 2 ^ k := ⟨_, rfl⟩
          have hp32 : p < 4294967296 := by rw [hp]; exact Nat.lt_of_lt_of_le (Nat.pow_lt_pow_right (by decide) hlt) (by decide)
          have hpm : (2 : Int) ^ k % 4294967296 = (p : Int) := by
            have e : (2 : Int) ^ k = (p : Int) := by rw [hp]; simp
            rw [e]; omega
          have hand : Go.bits .and .u32 (p : Int) 255 = ((p % 256 : Nat) : Int) := by
            have h := and_u32 p 255 hp32 (by decide)
            have e : p &&& 255 = p % 256 := Nat.and_two_pow_sub_one_eq_mod p 8
            rw [e] at h
            exact h
          have hcol : stpN 8 (p % 256) ^^^ p / 256 = col 8 k := by rw [col8 k hlt, hp]
          have hx : Go.bits .xor .u32 ((stpN 8 (p % 256) : Nat) : Int) ((p : Int) / 256) = ((col 8 k : Nat) : Int) := by
            have h := xor_u32 (stpN 8 (p % 256)) (p / 256) (stpN_lt 8 _ (by omega)) (by omega)
            rw [hcol] at h
            exact h
          have c1 : wr.cell? ⟨b, 4 + p % 256, none⟩ = some (.int .u32 (stpN 8 (p % 256) : Nat)) := by
            rw [hb.cell, cells_byte _ _ _ _ _ _ (by rw [byL_length]; omega), byL_at _ _ (by omega) (by omega)]
          have c2 : wr.cell? ⟨b, 260 + k, none⟩ = some (.int .u32 ((gapL k).getD k 0)) := by rw [hb.cell, cells_gap _ _ _ _ _ (byL_length _) k (by rw [gapL_length]; omega)]
          have z2 : wr.frozen? ⟨b, 260 + k, none⟩ = false := hb.frozen _
          have hlt2 : ((p % 256 : Nat) : Int) < 256 := by omega
          have HC := Lib.hid hcol
          clear hp hcol
          go_wp2
          go_region
          go_wp2
          have hs := (hb.set (260 + k) (.int .u32 (col 8 k : Nat))).drew
          rw [set_gap _ _ _ _ _ (byL_length _)] at hs
          have e0 : col 8 k = col (8 * 2 ^ (k / 32)) (k % 32) := by
            rw [show k / 32 = 0 by omega, show k % 32 = k by omega]
          rw [e0, gapL_step k, ← e0] at hs
          go_roundw
          case measure => simp [intOf]; omega
          case rel => exact ⟨k + 1, by omega, by go_num, hs, (hkeep.setCell (p := ⟨b, 260 + k, none⟩) (.inl rfl) _).drew⟩
        · obtain rfl : k = 32 := by omega
          go_wp2
          simp only [Int.cast_ofNat_Int]
          go_loopw [6] (fun i wr => ∃ k : Nat, 1 ≤ k ∧ k ≤ 63 ∧ i = .int .i64 k ∧ Blk wr b (tcells d s 0 (byL 256) (gapL (32 * k))) T ∧ Keep (· = b) w wr) (fun i _ => 63 - (intOf i).toNat)
          case atStart => exact ⟨1, by omega, by omega, rfl, hb, hkeep⟩
          case round =>
            clear hb hkeep
            obtain ⟨k, hk1, hk, rfl, hb, hkeep⟩ := hrel
            by_cases hlt : k < 63
            · obtain ⟨q, hq⟩ : ∃ q, k = q + 1 := ⟨k - 1, by omega⟩
              have dlt : decide ((k : Int) < 63) = true := decide_eq_true (by omega)
              have i3 : (k : Int) < 63 := by omega
              have i4 : (0 : Int) ≤ (k : Int) := by omega
              have i5 : (k : Int) - 1 = (q : Int) := by omega
              have i6 : IntKind.i64.wrap (q : Int) = (q : Int) := by rw [IntKind.wrap_i64]; omega
              have i0 : (0 : Int) ≤ (q : Int) := by omega
              have i1 : (q : Int) < 63 := by omega
              have hC : ∀ i, i < 32 → wr.drew.cell? ⟨b, 260 + q * 32 + i, none⟩ = some (.int .u32 (col (8 * 2 ^ q) i : Nat)) := fun i hi => by
                show wr.cell? _ = _
                rw [show 260 + q * 32 + i = 260 + (32 * q + i) by omega, hb.cell, cells_gap _ _ _ _ _ (byL_length _) _ (by rw [gapL_length]; omega), gapL_at _ _ _ hi (by omega) (by omega)]
              have hth : wr.there b (260 + k * 32) 32 := hb.there _ _ (by rw [tcells_size, byL_length, gapL_length]; omega)
              obtain ⟨cs, hcs⟩ : ∃ cs, cs = sqC (fun i => col (8 * 2 ^ q) i) 32 := ⟨_, rfl⟩
              have HSQ : Hid (Calls Try.prog 69 #[.pointer (some ⟨b, 260 + q * 32, none⟩)] wr.drew fun e w' => e = .returned (.agg cs) ∧ w'.there b (260 + k * 32) 32 ∧ Below wr.heap.size wr w') := Lib.hid (by
                refine (square_calls b (260 + q * 32) (fun i => col (8 * 2 ^ q) i) (fun i hi => col_lt _ i hi) wr.drew hb.lt hC).mono ?_
                rintro e w1 ⟨rfl, hbel⟩
                have hbel' : Below wr.heap.size wr w1 := ⟨hbel.os, hbel.tape, hbel.output, hbel.size, hbel.block⟩
                exact ⟨by rw [hcs], there_below hth hbel' hb.lt, hbel'⟩)
              have hcl : cs.size = 32 := by rw [hcs]; exact sqC_size _ _
              have hi : (Try.prog.info? 99).map (·.size) = some cs.size := by rw [hcl]; kernel_rfl
              have hu : Try.prog.underlying 99 = some (.array 32 22) := by kernel_rfl
              have hone : ∀ v ∈ cs.toList, v.oneCell' = true := fun v hv => by
                rw [hcs] at hv
                exact Array.all_eq_true_iff_forall_mem.1 (sqC_one _ _) v (by simpa using hv)
              have HQ := Lib.hid (And.intro hq hcs)
              clear hq hcs hC
              go_wp2
              go_region_held3 (fun w' => w'.there b (260 + k * 32) 32) (first | assumption | (apply World.there_setCells; assumption) | go_keep_ranges) (first | (go_at_call 69; refine HSQ.out.mono ?_; rintro e w1 ⟨rfl, hth2, hbel⟩))
              have hb2 := Mem.Blk.setCells cs.toList w1 _ (260 + k * 32) (hb.below hbel hb.lt)
              rw [HQ.out.2, sqC_list, put_gaps _ _ _ _ (byL_length _), HQ.out.1, gap_row q (by omega), ← HQ.out.1, ← sqC_list, ← HQ.out.2] at hb2
              have hk2 := Mem.Keep.setCells (S := (· = b)) rfl cs.toList w w1 (260 + k * 32) (hkeep.trans (Keep.of_below hbel))
              obtain ⟨w2, hw2⟩ : ∃ w2, w2 = w1.setCells b (260 + k * 32) cs.toList := ⟨_, rfl⟩
              rw [← hw2] at hb2 hk2 ⊢
              clear hw2 hth2 hbel HSQ hth
              go_wp2
              go_roundw
              case measure => simp [intOf]; omega
              case rel => exact ⟨k + 1, by omega, by omega, by go_num, hb2, hk2⟩
            · obtain rfl : k = 63 := by omega
              have c1 : wr.cell? ⟨b, 3, none⟩ = some (.int .i64 0) := by rw [hb.cell, cells_made]
              have hadd := run_call_add (P := Try.prog) Try.func79 (by kernel_rfl) (by kernel_rfl) (by kernel_rfl) .i64 (by kernel_rfl) (y := 1) (s := 1) c1 (hb.frozen 3) (by simp [go_sem]; first | done | rfl)
              go_wp2
              go_end0
              have hs := hb.set 3 (.int .i64 1)
              rw [set_made] at hs
              exact ⟨rfl, hs, hkeep.setCell (p := ⟨b, 3, none⟩) (.inl rfl) _⟩

/-- A table whose tables are made, or aren't yet. -/
def Tab (made : Bool) (w : World) (b : Nat) : Prop := Blk w b (if made then tcells 1 0 1 (byL 256) (gapL 2016) else tcells 0 0 0 (byL 0) (gapL 0)) 102

theorem by0 : byL 0 = List.replicate 256 0 := by
  unfold byL
  apply List.ext_getElem
  · rw [List.length_map, List.length_range, List.length_replicate]
  · intro n h1 h2
    rw [List.getElem_replicate]; simp only [List.getElem_map, Nat.not_lt_zero, if_false]
theorem gap0 : gapL 0 = List.replicate 2016 0 := by
  unfold gapL
  apply List.ext_getElem
  · rw [List.length_map, List.length_range, List.length_replicate]
  · intro n h1 h2
    rw [List.getElem_replicate]; simp only [List.getElem_map, Nat.not_lt_zero, if_false]
theorem zero_cells : Try.zeroCells102 = tcells 0 0 0 (byL 0) (gapL 0) := by
  have h3 : Try.zeroCells102 = tcells 0 0 0 (List.replicate 256 0) (List.replicate 2016 0) := by kernel_rfl
  rw [by0, gap0, h3]

theorem new_calls (w : World) : Calls Try.prog 20 #[] w fun e w' => e = .returned (.pointer (some ⟨w.heap.size, 0, none⟩)) ∧ (Tab false w' w.heap.size ∧ Below w.heap.size w w') := by
  have h := Blk.new w Try.zeroCells102 102
  go_enter Try.func20, Try.ntmps20
  go_wp2
  go_ret
  refine ⟨rfl, ?_, ba (br _) _⟩
  unfold Tab
  rw [← zero_cells]; exact h

set_option maxHeartbeats 1000000 in
set_option maxRecDepth 100000 in
theorem ready_calls (b : Nat) (st : Bool) (w : World) (h : Tab st w b) :
    Calls Try.prog 41 #[.pointer (some ⟨b, 0, none⟩)] w fun e w' => e = .returned (.bool true) ∧ (Tab true w' b ∧ Keep (· = b) w w') := by
  have hmf : ∀ (fn : Fn) (first cap : Array Value) (w : World), (Instr.makeFunc fn first cap).run Try.prog w = .ok (.func fn first cap) w := fun _ _ _ _ => rfl
  have hdo : Calls Try.prog 56 #[.pointer (some ⟨b, 0, none⟩), .func (.func 57) #[.pointer (some ⟨b, 0, none⟩)] #[]] w fun e w' => e = .returned (.tuple #[]) ∧ (Tab true w' b ∧ Keep (· = b) w w') := by
    cases st with
    | true =>
      unfold Tab at h
      simp only [if_true] at h
      refine (Sync.do_done ⟨b, 0, none⟩ 1 (by decide) _ w (by rw [h.cell, cells_done])).mono ?_
      rintro e w' ⟨rfl, rfl⟩
      exact ⟨rfl, h, Keep.refl _ _⟩
    | false =>
      unfold Tab at h
      simp only [Bool.false_eq_true, if_false] at h
      refine (Sync.do_first b 0 57 #[.pointer (some ⟨b, 0, none⟩)] #[] w (fun w' => Blk w' b (tcells 0 1 1 (byL 256) (gapL 2016)) 102 ∧ Keep (· = b) w w')
        (by rw [h.cell, cells_done]) (by rw [h.cell, cells_lock]) (h.frozen 0) (h.frozen 1) Try.call57 ?_ ?_).mono ?_
      · have hs := h.set 1 (.int .i32 1)
        rw [set_lock] at hs
        refine (make_calls b _ 0 1 _ hs).mono ?_
        rintro e w' ⟨rfl, hb, hk⟩
        exact ⟨rfl, hb, ((Keep.refl (· = b) w).setCell (p := ⟨b, 1, none⟩) (.inl rfl) _).trans hk⟩
      · rintro w' ⟨hb, _⟩
        exact ⟨by rw [hb.cell, cells_done], by rw [hb.cell, cells_lock], hb.frozen 0, hb.frozen 1⟩
      · rintro e w' ⟨rfl, w1, ⟨hb, hk⟩, rfl⟩
        refine ⟨rfl, ?_, (hk.drew.setCell (p := ⟨b, 0, none⟩) (.inl rfl) (.int .u32 1)).setCell (p := ⟨b, 1, none⟩) (.inl rfl) (.int .i32 0)⟩
        have hs := (hb.drew.set 0 (.int .u32 1)).set 1 (.int .i32 0)
        rw [set_done, set_lock] at hs
        exact hs
  have HD := Lib.hid hdo
  clear hdo
  go_enter Try.func41, Try.ntmps41
  go_wp2_with (go_at_call 56; refine HD.out.mono ?_; rintro e w' ⟨rfl, hr, hk⟩)
  go_ret
  exact ⟨rfl, hr, hk⟩

/-- Of a nil table: it is not ready. -/
theorem ready_nil (w : World) : Calls Try.prog 41 #[.pointer none] w fun e w' => e = .returned (.bool false) ∧ w = w' := by
  go_enter Try.func41, Try.ntmps41
  go_wp2
  go_ret
  exact ⟨rfl, rfl⟩
end Go.Proofs.Ytpfjidendklnlaa.Crc
