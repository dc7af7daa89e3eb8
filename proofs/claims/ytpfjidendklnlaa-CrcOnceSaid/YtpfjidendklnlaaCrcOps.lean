/- crc.Table's calls: sums, more of them, joined, by tables; of a nil table nothing. -/
import Derived.Test.YtpfjidendklnlaaCrc
namespace Go.Proofs.Ytpfjidendklnlaa.Crc
open Go.RowKit Go.Proofs.Ytpfjidendklnlaa.Mem Go.Proofs.Ytpfjidendklnlaa.CrcA Go.Proofs.Ytpfjidendklnlaa.CrcS Go.Proofs.Ytpfjidendklnlaa.Bits
open Go.Proofs.YtpfjidendklnlaaW.PrintWords hiding bt
set_option linter.unusedVariables false
set_option linter.unusedSimpArgs false

theorem tab_byte {w : World} {b : Nat} (h : Tab true w b) (i : Nat) (hi : i < 256) : w.cell? ⟨b, 4 + i, none⟩ = some (.int .u32 (stpN 8 i : Nat)) := by
  unfold Tab at h
  simp only [if_true] at h
  rw [h.cell, cells_byte _ _ _ _ _ _ (by rw [byL_length]; exact hi), byL_at _ _ hi (by omega)]
theorem tab_gap {w : World} {b : Nat} (h : Tab true w b) (k i : Nat) (hk : k < 63) (hi : i < 32) : w.cell? ⟨b, 260 + k * 32 + i, none⟩ = some (.int .u32 (col (8 * 2 ^ k) i : Nat)) := by
  unfold Tab at h
  simp only [if_true] at h
  rw [show 260 + k * 32 + i = 260 + (32 * k + i) by omega, h.cell, cells_gap _ _ _ _ _ (byL_length _) _ (by rw [gapL_length]; omega), gapL_at _ _ _ hi (by omega) (by omega)]
theorem odd_i64 (n : Nat) (h : n ≤ 9223372036854775807) : Go.bits .and .i64 (n : Int) 1 = ((n % 2 : Nat) : Int) := by
  have h1 : Go.bits .and .i64 (n : Int) 1 = (n : Int) % 2 :=
    bits_mask .i64 63 (by decide) (fun v h0 h1 => by rw [IntKind.wrap_i64]; rw [show (2 : Int) ^ 63 = 9223372036854775808 by decide] at h1; omega) 1 (by decide) n (by omega) (by rw [show (2 : Int) ^ 63 = 9223372036854775808 by decide]; omega)
  omega
theorem Tab.drewN {st : Bool} {w : World} {b : Nat} (h : Tab st w b) (n : Nat) : Tab st (w.drewN n) b := h
def madeN (st : Bool) : Int := if st then 1 else 0
theorem tab_made {w : World} {b : Nat} {st : Bool} (h : Tab st w b) : w.cell? ⟨b, 3, none⟩ = some (.int .i64 (madeN st)) := by
  unfold Tab at h
  unfold madeN
  cases st
  · simp only [Bool.false_eq_true, if_false] at h ⊢; rw [h.cell, cells_made]
  · simp only [if_true] at h ⊢; rw [h.cell, cells_made]

theorem made_calls (b : Nat) (st : Bool) (w : World) (h : Tab st w b) :
    Calls Try.prog 21 #[.pointer (some ⟨b, 0, none⟩)] w fun e w' => e = .returned (.int .i64 (madeN st)) ∧ w = w' := by
  have hc := tab_made h
  have hl := run_call_load (P := Try.prog) Try.func59 (by kernel_rfl) (by kernel_rfl) (by kernel_rfl) .i64 (by kernel_rfl) hc
  go_enter Try.func21, Try.ntmps21
  go_wp2
  go_ret
  exact ⟨rfl, rfl⟩
theorem made_nil (w : World) : Calls Try.prog 21 #[.pointer none] w fun e w' => e = .returned (.int .i64 0) ∧ w = w' := by
  go_enter Try.func21, Try.ntmps21
  go_wp2
  go_ret
  exact ⟨rfl, rfl⟩

attribute [local go_sem high] unary_not_u32
attribute [local irreducible] stp stpN byt reg CrcA.sum col byL gapL tcells Tab times

set_option maxHeartbeats 4000000 in
set_option maxRecDepth 100000 in
theorem more_calls (b : Nat) (st : Bool) (c : Nat) (s : ByteArray) (hc : c < 4294967296) (hs : s.size ≤ 9223372036854775807) (w : World) (h : Tab st w b) :
    Calls Try.prog 17 #[.pointer (some ⟨b, 0, none⟩), .int .u32 c, .string s] w fun e w' => e = .returned (.int .u32 (reg (c ^^^ full) (by8 s) ^^^ full : Nat)) ∧ (Tab true w' b ∧ Keep (· = b) w w') := by
  have hx0 := not_u32 c hc
  have hr2 : c ^^^ full < 4294967296 := Nat.xor_lt_two_pow (n := 32) hc (by decide)
  go_enter Try.func17, Try.ntmps17
  go_wp2_with fail
  refine (ready_calls b st _ h).mono ?_
  rintro e w1 ⟨rfl, hr, hk⟩
  go_wp2
  go_loopw [7, 16] (fun x i wr => ∃ k n : Nat, k ≤ s.size ∧ n < 4294967296 ∧ Hid (n = reg (c ^^^ full) ((by8 s).take k)) ∧ i = .int .i64 k ∧ x = .int .u32 n ∧ Tab true wr b ∧ Keep (· = b) w wr) (fun _ i _ => s.size - (intOf i).toNat)
  case atStart => exact ⟨0, c ^^^ full, Nat.zero_le _, hr2, Lib.hid (reg_nil _).symm, rfl, rfl, hr, hk⟩
  case round =>
    clear hr hk hx0 h
    obtain ⟨k, n, hk, hn, HN, rfl, rfl, hr, hkeep⟩ := hrel
    by_cases hlt : k < s.size
    · obtain ⟨y, hy, hbt, hb8⟩ := by8_at s k hlt
      have dlt : decide ((k : Int) < (s.size : Int)) = true := decide_eq_true (by omega)
      have q6 : ((k : Int) < (s.size : Int)) = True := eq_true (by omega)
      have hlt8 : n % 256 ^^^ y < 256 := Nat.xor_lt_two_pow (n := 8) (by omega) (by omega)
      have hx8 : Go.bits .xor .u8 ((n : Int) % 256) (y : Int) = ((n % 256 ^^^ y : Nat) : Int) := xor_u8 (n % 256) y (by omega) hy
      have hT : stpN 8 (n % 256 ^^^ y) ^^^ n / 256 = byt n y := (byt_table n y hn hy).symm
      have hx : Go.bits .xor .u32 ((stpN 8 (n % 256 ^^^ y) : Nat) : Int) ((n : Int) / 256) = ((byt n y : Nat) : Int) := by
        have h := xor_u32 (stpN 8 (n % 256 ^^^ y)) (n / 256) (stpN_lt 8 _ (by omega)) (by omega)
        rw [hT] at h
        exact h
      have c1 := tab_byte hr (n % 256 ^^^ y) hlt8
      obtain ⟨z, hz⟩ : ∃ z, z = n % 256 ^^^ y := ⟨_, rfl⟩
      rw [← hz] at hx8 hx c1 hlt8
      have hz1 : (z : Int) < 256 := by omega
      have hb := byt_lt n y hn hy
      clear hT hz
      go_wp2
      go_quiet (fail)
      go_wp2
      go_roundw
      case measure => simp [intOf]; omega
      case rel => exact ⟨k + 1, byt n y, by omega, hb, Lib.hid (by rw [reg_take _ _ _ _ hb8, ← HN.out]), by go_num, rfl, by first | exact hr | exact hr.drewN _, by first | exact hkeep | exact hkeep.drewN _⟩
    · obtain rfl : k = s.size := by omega
      have hx := not_u32 n hn
      go_wp2
      go_ret
      refine ⟨?_, hr, hkeep⟩
      have e : n = reg (c ^^^ full) (by8 s) := by rw [HN.out, List.take_of_length_le (by rw [by8_length]; exact Nat.le_refl _)]
      rw [← e]; rfl
theorem sum_calls (b : Nat) (st : Bool) (s : ByteArray) (hs : s.size ≤ 9223372036854775807) (w : World) (h : Tab st w b) :
    Calls Try.prog 16 #[.pointer (some ⟨b, 0, none⟩), .string s] w fun e w' => e = .returned (.int .u32 (CrcA.sum (by8 s) : Nat)) ∧ (Tab true w' b ∧ Keep (· = b) w w') := by
  go_enter Try.func16, Try.ntmps16
  go_wp2_with fail
  refine (more_calls b st 0 s (by decide) hs _ h).mono ?_
  rintro e w1 ⟨rfl, hr, hk⟩
  go_wp2
  go_ret
  exact ⟨by rw [← sum_def]; simp, hr, hk⟩

/-- Joined over n bytes. -/
def joinN (a c : Nat) (n : Int) : Nat := if n < 1 then a else stpN (8 * n.toNat) a ^^^ c

set_option maxHeartbeats 4000000 in
set_option maxRecDepth 100000 in
theorem join_calls (b : Nat) (st : Bool) (a c : Nat) (n : Int) (ha : a < 4294967296) (hc : c < 4294967296) (hn : n ≤ 9223372036854775807) (w : World) (h : Tab st w b) :
    Calls Try.prog 19 #[.pointer (some ⟨b, 0, none⟩), .int .u32 a, .int .u32 c, .int .i64 n] w fun e w' => e = .returned (.int .u32 (joinN a c n : Nat)) ∧ (Tab true w' b ∧ Keep (· = b) w w') := by
  by_cases h1 : n < 1
  · have hj : joinN a c n = a := by unfold joinN; rw [if_pos h1]
    rw [hj]
    have d1 : decide (n < 1) = true := decide_eq_true h1
    clear hj
    go_enter Try.func19, Try.ntmps19
    go_wp2_with fail
    refine (ready_calls b st _ h).mono ?_
    rintro e w1 ⟨rfl, hr, hk⟩
    go_wp2
    go_ret
    exact ⟨rfl, hr, hk⟩
  · obtain ⟨m, rfl⟩ : ∃ m : Nat, n = m := ⟨n.toNat, by omega⟩
    have hj : joinN a c m = stpN (8 * m) a ^^^ c := by unfold joinN; rw [if_neg h1]; simp
    rw [hj]
    have hm1 : 1 ≤ m := by omega
    have hm2 : m ≤ 9223372036854775807 := by omega
    have d1 : decide ((m : Int) < 1) = false := decide_eq_false h1
    clear hj h1
    go_enter Try.func19, Try.ntmps19
    go_wp2_with fail
    refine (ready_calls b st _ h).mono ?_
    rintro e w1 ⟨rfl, hr, hk⟩
    go_wp2
    go_loopw [1, 3, 9] (fun x1 x3 x9 wr => ∃ k q n : Nat, k ≤ 63 ∧ q < 4294967296 ∧ n ≤ 9223372036854775807 ∧ Hid (n = m / 2 ^ k ∧ q = stpN (8 * (m % 2 ^ k)) a) ∧ x1 = .int .u32 q ∧ x3 = .int .i64 n ∧ x9 = .int .i64 k ∧ Tab true wr b ∧ Keep (· = b) w wr) (fun _ x _ _ => (intOf x).toNat)
    case atStart => exact ⟨0, a, m, by omega, ha, hm2, Lib.hid ⟨by simp, by rw [Nat.pow_zero, Nat.mod_one, Nat.mul_zero, stpN_at0]⟩, rfl, rfl, rfl, hr, hk⟩
    case round =>
      clear hr hk h
      obtain ⟨k, q, n, hk, hq, hn, HX, rfl, rfl, rfl, hr, hkeep⟩ := hrel
      by_cases h0 : n = 0
      · subst h0
        have e : stpN (8 * m) a = q := by
          rw [HX.out.2, Nat.mod_eq_of_lt ((Nat.div_eq_zero_iff_lt (Nat.two_pow_pos k)).1 HX.out.1.symm)]
        have E := Lib.hid e
        have hx := xor_u32 q c hq hc
        have d0 : decide ((0 : Int) < ((0 : Nat) : Int)) = false := by decide
        clear e
        go_wp2
        go_ret
        exact ⟨by rw [E.out]; rfl, hr, hkeep⟩
      · have hk63 : k < 63 := by
          rcases Nat.lt_or_ge k 63 with h | h
          · exact h
          · exfalso
            obtain rfl : k = 63 := by omega
            exact h0 (HX.out.1.trans (Nat.div_eq_of_lt (by omega)))
        have d0 : decide ((0 : Int) < (n : Int)) = true := decide_eq_true (by omega)
        have ho : Go.bits .and .i64 (n : Int) 1 = ((n % 2 : Nat) : Int) := odd_i64 n hn
        have h2 : n / 2 = m / 2 ^ (k + 1) := by rw [HX.out.1, Nat.div_div_eq_div_mul, Nat.pow_succ]
        have hmod : m % 2 ^ (k + 1) = m % 2 ^ k + (if n % 2 = 1 then 2 ^ k else 0) := by
          rw [Nat.pow_succ, Nat.mod_mul, ← HX.out.1]
          rcases Nat.mod_two_eq_zero_or_one n with h | h <;> rw [h] <;> simp
        have i1 : (k : Int) < 63 := by omega
        have i2 : (0 : Int) ≤ (k : Int) := by omega
        have hdv : n / 2 ≤ 9223372036854775807 := by omega
        rcases Nat.mod_two_eq_zero_or_one n with h | h
        · rw [h] at ho
          rw [if_neg (by omega), Nat.add_zero] at hmod
          have H2 := Lib.hid (And.intro h2 hmod)
          clear h2 hmod h
          go_wp2
          go_roundw
          case measure => simp [intOf]; omega
          case rel => exact ⟨k + 1, q, n / 2, by omega, hq, hdv, Lib.hid ⟨H2.out.1, by rw [H2.out.2]; exact HX.out.2⟩, rfl, by go_num, by go_num, hr, hkeep⟩
        · rw [h] at ho
          rw [if_pos h] at hmod
          have H2 := Lib.hid (And.intro h2 hmod)
          clear h2 hmod h
          have ht := times_full (8 * 2 ^ k) q hq
          go_wp2_with fail
          refine (times_calls b (260 + k * 32) (fun i => col (8 * 2 ^ k) i) (fun i hi => col_lt _ i hi) q hq _ (fun i hi => tab_gap hr k i hk63 hi)).mono ?_
          rintro e w2 ⟨rfl, ⟨nd, rfl⟩⟩
          have ht' : times (fun i => col (8 * 2 ^ k) i) q 32 = stpN (8 * 2 ^ k) q := ht
          rw [ht']
          have hlt := stpN_lt (8 * 2 ^ k) q hq
          go_wp2
          go_roundw
          case measure => simp [intOf]; omega
          case rel => exact ⟨k + 1, stpN (8 * 2 ^ k) q, n / 2, by omega, hlt, hdv, Lib.hid ⟨H2.out.1, by rw [H2.out.2, Nat.mul_add, stpN_add, ← HX.out.2]⟩, rfl, by go_num, by go_num, hr.drewN _, hkeep.drewN _⟩
theorem more_nil (c : Int) (s : ByteArray) (w : World) : Calls Try.prog 17 #[.pointer none, .int .u32 c, .string s] w fun e w' => e = .returned (.int .u32 0) ∧ w = w' := by
  go_enter Try.func17, Try.ntmps17
  go_wp2_with fail
  refine (ready_nil _).mono ?_
  rintro e w1 ⟨rfl, rfl⟩
  go_wp2
  go_ret
  exact ⟨rfl, rfl⟩
theorem sum_nil (s : ByteArray) (w : World) : Calls Try.prog 16 #[.pointer none, .string s] w fun e w' => e = .returned (.int .u32 0) ∧ w = w' := by
  go_enter Try.func16, Try.ntmps16
  go_wp2_with fail
  refine (more_nil 0 s _).mono ?_
  rintro e w1 ⟨rfl, rfl⟩
  go_wp2
  go_ret
  exact ⟨rfl, rfl⟩
theorem join_nil (a c n : Int) (w : World) : Calls Try.prog 19 #[.pointer none, .int .u32 a, .int .u32 c, .int .i64 n] w fun e w' => e = .returned (.int .u32 0) ∧ w = w' := by
  go_enter Try.func19, Try.ntmps19
  go_wp2_with fail
  refine (ready_nil _).mono ?_
  rintro e w1 ⟨rfl, rfl⟩
  go_wp2
  go_ret
  exact ⟨rfl, rfl⟩
end Go.Proofs.Ytpfjidendklnlaa.Crc
