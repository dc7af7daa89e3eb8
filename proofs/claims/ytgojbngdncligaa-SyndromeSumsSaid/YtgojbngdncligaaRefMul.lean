/- The reference's product of two elements, walked: it is gmul. -/
import Derived.Test.YtgojbngdncligaaGmul
import Derived.WalkKit
import Derived.KernelRfl
import Derived.Deep.LoopGhost
import Derived.Test.YtgojbngdncligaaProg
namespace Go.Proofs.Ytgojbngdncligaa.RefMul
open Go.RowKit Go.Proofs.Ytgojbngdncligaa.Mem Go.Proofs.Ytgojbngdncligaa.Gmul
set_option linter.unusedVariables false
set_option linter.unusedSimpArgs false

def bc (C : Nat) : Array Value := ((bl C).map (Value.int .i64)).toArray
def bit (C j : Nat) : Int := if C.testBit j then 1 else 0
theorem bc_at (C j : Nat) (h : j < 15) : (bc C)[j]? = some (.int .i64 (bit C j)) := by
  have := bl_getD C j h
  simp only [List.getD_eq_getElem?_getD] at this
  simp only [bc, List.getElem?_toArray, List.getElem?_map]
  have e : (bl C)[j]? = some ((bl C)[j]?.getD 0) := by rw [List.getElem?_eq_getElem (by rw [bl_length]; exact h)]; rfl
  rw [e, this]; rfl
theorem bc_set (C j : Nat) (h : j < 15) (v : Int) (t : Bool) (hv : v = if (C.testBit j).xor t then 1 else 0) : (bc C).setIfInBounds j (.int .i64 v) = bc (C ^^^ ((if t then 1 else 0) <<< j)) := by
  simp only [bc, List.setIfInBounds_toArray]
  rw [← bl_set C j h v t hv, List.map_set]
theorem bc_zero : bc 0 = #[.int .i64 0, .int .i64 0, .int .i64 0, .int .i64 0, .int .i64 0, .int .i64 0, .int .i64 0, .int .i64 0, .int .i64 0, .int .i64 0, .int .i64 0, .int .i64 0, .int .i64 0, .int .i64 0, .int .i64 0] := by
  unfold bc; rw [bl_zero]; rfl

theorem bit_le (C j : Nat) : 0 ≤ bit C j ∧ bit C j ≤ 1 := by unfold bit; split <;> omega
theorem low_bit (a i : Nat) : ((a / 2 ^ i : Nat) : Int) % 2 = if a.testBit i then 1 else 0 := by
  have h : a.testBit i = decide (a / 2 ^ i % 2 = 1) := Nat.testBit_eq_decide_div_mod_eq
  rw [h]
  by_cases h1 : a / 2 ^ i % 2 = 1
  · simp only [h1, decide_true, if_true]; omega
  · simp only [h1, decide_false, Bool.false_eq_true, if_false]; omega
theorem inner_step (a b i k x y C0 C : Nat) (v : Int) (hi : i < 8) (hk : k < 8) (hx : x = a / 2 ^ i) (hy : y = b / 2 ^ k)
    (hC : C = C0 ^^^ (if a.testBit i then (b % 2 ^ k) <<< i else 0)) (hv : v = bit C (i + k)) :
    (bc C).setIfInBounds (i + k) (.int .i64 ((v + (x : Int) % 2 * ((y : Int) % 2)) % 2)) = bc (C0 ^^^ (if a.testBit i then (b % 2 ^ (k + 1)) <<< i else 0)) := by
  have ex : (x : Int) % 2 = if a.testBit i then 1 else 0 := by rw [hx]; exact low_bit a i
  have ey : (y : Int) % 2 = if b.testBit k then 1 else 0 := by rw [hy]; exact low_bit b k
  rw [ex, ey]
  rw [bc_set C (i + k) (by omega) _ (a.testBit i && b.testBit k) (by
    rw [hv]; unfold bit
    cases C.testBit (i + k) <;> cases a.testBit i <;> cases b.testBit k <;> decide)]
  rw [hC]
  congr 1
  cases a.testBit i with
  | false => simp
  | true =>
    simp only [if_true, Bool.true_and]
    rw [low_step, Nat.xor_assoc]
theorem outer_step (a b i : Nat) (hb : b < 256) : clTo a b i ^^^ (if a.testBit i then (b % 2 ^ 8) <<< i else 0) = clTo a b (i + 1) := by
  rw [show b % 2 ^ 8 = b from Nat.mod_eq_of_lt hb]; rfl
/-- The bits at six places turned. -/
theorem red_cells (C i : Nat) (h : 8 ≤ i) (h' : i ≤ 14) (h1 : C.testBit i = true) :
    ((((((bc C).setIfInBounds i (.int .i64 0)).setIfInBounds (i - 4) (.int .i64 (1 - bit C (i - 4)))).setIfInBounds (i - 5) (.int .i64 (1 - bit C (i - 5)))).setIfInBounds (i - 6) (.int .i64 (1 - bit C (i - 6)))).setIfInBounds (i - 8) (.int .i64 (1 - bit C (i - 8)))) = bc (redStep C i) := by
  have fl : ∀ (D j : Nat), j < 15 → D.testBit j = C.testBit j → (bc D).setIfInBounds j (.int .i64 (1 - bit C j)) = bc (D ^^^ (1 <<< j)) := by
    intro D j hj hd
    rw [bc_set D j hj _ true (by rw [hd]; unfold bit; cases C.testBit j <;> decide)]
    simp
  have ne : ∀ (D p q : Nat), p ≠ q → (D ^^^ (1 <<< p)).testBit q = D.testBit q := by
    intro D p q hn
    have := bit_at true p q
    simp only [if_true] at this
    rw [Nat.testBit_xor, this]; simp [hn]
  have h0 : (bc C).setIfInBounds i (.int .i64 0) = bc (C ^^^ (1 <<< i)) := by
    rw [bc_set C i (by omega) _ true (by rw [h1]; rfl)]; simp
  rw [h0, fl _ _ (by omega) (by rw [ne _ _ _ (by omega)]), fl _ _ (by omega) (by rw [ne _ _ _ (by omega), ne _ _ _ (by omega)]),
    fl _ _ (by omega) (by rw [ne _ _ _ (by omega), ne _ _ _ (by omega), ne _ _ _ (by omega)]), fl _ _ (by omega) (by rw [ne _ _ _ (by omega), ne _ _ _ (by omega), ne _ _ _ (by omega), ne _ _ _ (by omega)])]
  unfold redStep
  rw [if_pos h1, red_turns C i h h']

set_option maxHeartbeats 4000000 in
set_option maxRecDepth 100000 in
theorem mul_calls (a b : Nat) (ha : a < 256) (hb : b < 256) (w : World) :
    Calls Try.prog 42 #[.int .u8 a, .int .u8 b] w fun e w' => e = .returned (.int .u8 (gmul a b)) ∧ Below w.heap.size w w' := by
  go_enter Try.func42, Try.ntmps42
  go_wp2
  have hb0 : Blk (w.alloc (.cells (bc 0) 75)) w.heap.size (bc 0) 75 := Blk.new _ _ _
  rw [bc_zero] at hb0
  go_loopw [6, 7] (fun x i wr => ∃ k n C : Nat, k ≤ 8 ∧ n < 256 ∧ i = .int .i64 k ∧ x = .int .i64 n ∧ Hid (n = a / 2 ^ k ∧ C = clTo a b k) ∧ Blk wr w.heap.size (bc C) 75 ∧ Below w.heap.size w wr) (fun _ i _ => 8 - (intOf i).toNat)
  case atStart => exact ⟨0, a, 0, by omega, ha, rfl, rfl, Lib.hid ⟨by simp, rfl⟩, by rw [bc_zero]; exact hb0, ba (br _) _⟩
  case round =>
    clear hb0
    obtain ⟨i, x, C0, hi, hx, rfl, rfl, HX, hblk, hbel⟩ := hrel
    by_cases hlt : i < 8
    · go_wp2
      go_loopw [8, 9] (fun y j wr => ∃ k n C : Nat, k ≤ 8 ∧ n < 256 ∧ j = .int .i64 k ∧ y = .int .i64 n ∧ Hid (n = b / 2 ^ k ∧ C = C0 ^^^ (if a.testBit i then (b % 2 ^ k) <<< i else 0)) ∧ Blk wr w.heap.size (bc C) 75 ∧ Below w.heap.size w wr) (fun _ j _ => 8 - (intOf j).toNat)
      case atStart => exact ⟨0, b, C0, by omega, hb, rfl, rfl, Lib.hid ⟨by simp, by simp [Nat.mod_one]⟩, hblk, hbel⟩
      case round =>
        obtain ⟨k, y, C, hk, hy, rfl, rfl, HY, hblk2, hbel2⟩ := hrel
        by_cases hlk : k < 8
        · obtain ⟨v, hv⟩ : ∃ v, v = bit C (i + k) := ⟨_, rfl⟩
          have hv01 : 0 ≤ v ∧ v ≤ 1 := by rw [hv]; unfold bit; split <;> omega
          obtain ⟨hv0, hv1⟩ := hv01
          have c0 : wr.cell? ⟨w.heap.size, i + k, none⟩ = some (.int .i64 v) := by rw [hblk2.cell, bc_at _ _ (by omega), hv]
          have f0 : wr.frozen? ⟨w.heap.size, i + k, none⟩ = false := hblk2.frozen _
          have HV := Lib.hid hv
          clear hv
          have hp0 : 0 ≤ (x : Int) % 2 * ((y : Int) % 2) ∧ (x : Int) % 2 * ((y : Int) % 2) ≤ 1 := by
            rcases (show (x : Int) % 2 = 0 ∨ (x : Int) % 2 = 1 by omega) with h | h <;> rw [h] <;> omega
          obtain ⟨hp0, hp1⟩ := hp0
          go_wp2
          refine ⟨⟨k + 1, y / 2, _, by omega, by omega, by go_num, by go_num, Lib.hid ⟨by rw [HY.out.1, Nat.div_div_eq_div_mul, Nat.pow_succ], rfl⟩, ?_, bs hbel2 (Nat.le_refl _) _⟩, by simp [intOf]; omega⟩
          have hs := hblk2.set (i + k) (.int .i64 ((v + (x : Int) % 2 * ((y : Int) % 2)) % 2))
          rw [inner_step a b i k x y C0 C v hlt hlk HX.out.1 HY.out.1 HY.out.2 HV.out] at hs
          exact hs
        · obtain rfl : k = 8 := by omega
          go_wp2
          refine ⟨⟨i + 1, x / 2, C, by omega, by omega, by go_num, by go_num, Lib.hid ⟨by rw [HX.out.1, Nat.div_div_eq_div_mul, Nat.pow_succ], ?_⟩, hblk2, hbel2⟩, by simp [intOf]; omega⟩
          rw [HY.out.2, HX.out.2]
          exact outer_step a b i hb
    · obtain rfl : i = 8 := by omega
      go_wp2
      go_loopw [10] (fun i wr => ∃ j C : Nat, 7 ≤ j ∧ j ≤ 14 ∧ i = .int .i64 j ∧ Hid (C = redTo C0 (14 - j)) ∧ Blk wr w.heap.size (bc C) 75 ∧ Below w.heap.size w wr) (fun i _ => (intOf i).toNat)
      case atStart => exact ⟨14, C0, by decide, by decide, rfl, Lib.hid rfl, hblk, hbel⟩
      case round =>
        obtain ⟨j, C, hj7, hj14, rfl, HC, hblk3, hbel3⟩ := hrel
        rcases (show j = 14 ∨ j = 13 ∨ j = 12 ∨ j = 11 ∨ j = 10 ∨ j = 9 ∨ j = 8 ∨ j = 7 by omega) with rfl | rfl | rfl | rfl | rfl | rfl | rfl | rfl
        · have hc := fun d (h : d < 15) => (hblk3.cell d).trans (bc_at C d h)
          obtain ⟨v4, e4⟩ : ∃ v, v = bit C 10 := ⟨_, rfl⟩
          obtain ⟨v5, e5⟩ : ∃ v, v = bit C 9 := ⟨_, rfl⟩
          obtain ⟨v6, e6⟩ : ∃ v, v = bit C 8 := ⟨_, rfl⟩
          obtain ⟨v8, e8⟩ : ∃ v, v = bit C 6 := ⟨_, rfl⟩
          have b4 := bit_le C 10; have b5 := bit_le C 9; have b6 := bit_le C 8; have b8 := bit_le C 6
          have c4 := hc 10 (by decide); have c5 := hc 9 (by decide); have c6 := hc 8 (by decide); have c8 := hc 6 (by decide); have c0 := hc 14 (by decide)
          rw [← e4] at b4 c4; rw [← e5] at b5 c5; rw [← e6] at b6 c6; rw [← e8] at b8 c8
          obtain ⟨b4l, b4h⟩ := b4; obtain ⟨b5l, b5h⟩ := b5; obtain ⟨b6l, b6h⟩ := b6; obtain ⟨b8l, b8h⟩ := b8
          have fz : ∀ d, wr.frozen? ⟨w.heap.size, d, none⟩ = false := hblk3.frozen
          have z0 := fz 14; have z4 := fz 10; have z5 := fz 9; have z6 := fz 8; have z8 := fz 6
          have E := Lib.hid (And.intro e4 (And.intro e5 (And.intro e6 e8)))
          clear e4 e5 e6 e8 hc fz
          cases hbit : C.testBit 14 with
          | true =>
            rw [show bit C 14 = 1 by unfold bit; rw [if_pos hbit]] at c0
            have HT := Lib.hid hbit
            clear hbit
            go_wp2
            refine ⟨⟨13, redStep C 14, by decide, by decide, rfl, Lib.hid ?_, ?_, bs (bs (bs (bs (bs hbel3 (Nat.le_refl _) _) (Nat.le_refl _) _) (Nat.le_refl _) _) (Nat.le_refl _) _) (Nat.le_refl _) _⟩, by simp [intOf]⟩
            · have := HC.out; rw [this]; rfl
            · obtain ⟨e4, e5, e6, e8⟩ := E.out
              have hs := ((((hblk3.set 14 (.int .i64 0)).set 10 (.int .i64 (1 - v4))).set 9 (.int .i64 (1 - v5))).set 8 (.int .i64 (1 - v6))).set 6 (.int .i64 (1 - v8))
              have hr := red_cells C 14 (by decide) (by decide) HT.out
              simp only [Nat.reduceSub, ← e4, ← e5, ← e6, ← e8] at hr
              rw [hr] at hs
              exact hs
          | false =>
            rw [show bit C 14 = 0 by unfold bit; rw [if_neg (by rw [hbit]; decide)]] at c0
            have HT := Lib.hid hbit
            clear hbit
            go_wp2
            refine ⟨⟨13, redStep C 14, by decide, by decide, rfl, Lib.hid ?_, ?_, hbel3⟩, by simp [intOf]⟩
            · have := HC.out; rw [this]; rfl
            · have : redStep C 14 = C := by unfold redStep; rw [if_neg (by rw [HT.out]; decide)]
              rw [this]; exact hblk3
        · have hc := fun d (h : d < 15) => (hblk3.cell d).trans (bc_at C d h)
          obtain ⟨v4, e4⟩ : ∃ v, v = bit C 9 := ⟨_, rfl⟩
          obtain ⟨v5, e5⟩ : ∃ v, v = bit C 8 := ⟨_, rfl⟩
          obtain ⟨v6, e6⟩ : ∃ v, v = bit C 7 := ⟨_, rfl⟩
          obtain ⟨v8, e8⟩ : ∃ v, v = bit C 5 := ⟨_, rfl⟩
          have b4 := bit_le C 9; have b5 := bit_le C 8; have b6 := bit_le C 7; have b8 := bit_le C 5
          have c4 := hc 9 (by decide); have c5 := hc 8 (by decide); have c6 := hc 7 (by decide); have c8 := hc 5 (by decide); have c0 := hc 13 (by decide)
          rw [← e4] at b4 c4; rw [← e5] at b5 c5; rw [← e6] at b6 c6; rw [← e8] at b8 c8
          obtain ⟨b4l, b4h⟩ := b4; obtain ⟨b5l, b5h⟩ := b5; obtain ⟨b6l, b6h⟩ := b6; obtain ⟨b8l, b8h⟩ := b8
          have fz : ∀ d, wr.frozen? ⟨w.heap.size, d, none⟩ = false := hblk3.frozen
          have z0 := fz 13; have z4 := fz 9; have z5 := fz 8; have z6 := fz 7; have z8 := fz 5
          have E := Lib.hid (And.intro e4 (And.intro e5 (And.intro e6 e8)))
          clear e4 e5 e6 e8 hc fz
          cases hbit : C.testBit 13 with
          | true =>
            rw [show bit C 13 = 1 by unfold bit; rw [if_pos hbit]] at c0
            have HT := Lib.hid hbit
            clear hbit
            go_wp2
            refine ⟨⟨12, redStep C 13, by decide, by decide, rfl, Lib.hid ?_, ?_, bs (bs (bs (bs (bs hbel3 (Nat.le_refl _) _) (Nat.le_refl _) _) (Nat.le_refl _) _) (Nat.le_refl _) _) (Nat.le_refl _) _⟩, by simp [intOf]⟩
            · have := HC.out; rw [this]; rfl
            · obtain ⟨e4, e5, e6, e8⟩ := E.out
              have hs := ((((hblk3.set 13 (.int .i64 0)).set 9 (.int .i64 (1 - v4))).set 8 (.int .i64 (1 - v5))).set 7 (.int .i64 (1 - v6))).set 5 (.int .i64 (1 - v8))
              have hr := red_cells C 13 (by decide) (by decide) HT.out
              simp only [Nat.reduceSub, ← e4, ← e5, ← e6, ← e8] at hr
              rw [hr] at hs
              exact hs
          | false =>
            rw [show bit C 13 = 0 by unfold bit; rw [if_neg (by rw [hbit]; decide)]] at c0
            have HT := Lib.hid hbit
            clear hbit
            go_wp2
            refine ⟨⟨12, redStep C 13, by decide, by decide, rfl, Lib.hid ?_, ?_, hbel3⟩, by simp [intOf]⟩
            · have := HC.out; rw [this]; rfl
            · have : redStep C 13 = C := by unfold redStep; rw [if_neg (by rw [HT.out]; decide)]
              rw [this]; exact hblk3
        · have hc := fun d (h : d < 15) => (hblk3.cell d).trans (bc_at C d h)
          obtain ⟨v4, e4⟩ : ∃ v, v = bit C 8 := ⟨_, rfl⟩
          obtain ⟨v5, e5⟩ : ∃ v, v = bit C 7 := ⟨_, rfl⟩
          obtain ⟨v6, e6⟩ : ∃ v, v = bit C 6 := ⟨_, rfl⟩
          obtain ⟨v8, e8⟩ : ∃ v, v = bit C 4 := ⟨_, rfl⟩
          have b4 := bit_le C 8; have b5 := bit_le C 7; have b6 := bit_le C 6; have b8 := bit_le C 4
          have c4 := hc 8 (by decide); have c5 := hc 7 (by decide); have c6 := hc 6 (by decide); have c8 := hc 4 (by decide); have c0 := hc 12 (by decide)
          rw [← e4] at b4 c4; rw [← e5] at b5 c5; rw [← e6] at b6 c6; rw [← e8] at b8 c8
          obtain ⟨b4l, b4h⟩ := b4; obtain ⟨b5l, b5h⟩ := b5; obtain ⟨b6l, b6h⟩ := b6; obtain ⟨b8l, b8h⟩ := b8
          have fz : ∀ d, wr.frozen? ⟨w.heap.size, d, none⟩ = false := hblk3.frozen
          have z0 := fz 12; have z4 := fz 8; have z5 := fz 7; have z6 := fz 6; have z8 := fz 4
          have E := Lib.hid (And.intro e4 (And.intro e5 (And.intro e6 e8)))
          clear e4 e5 e6 e8 hc fz
          cases hbit : C.testBit 12 with
          | true =>
            rw [show bit C 12 = 1 by unfold bit; rw [if_pos hbit]] at c0
            have HT := Lib.hid hbit
            clear hbit
            go_wp2
            refine ⟨⟨11, redStep C 12, by decide, by decide, rfl, Lib.hid ?_, ?_, bs (bs (bs (bs (bs hbel3 (Nat.le_refl _) _) (Nat.le_refl _) _) (Nat.le_refl _) _) (Nat.le_refl _) _) (Nat.le_refl _) _⟩, by simp [intOf]⟩
            · have := HC.out; rw [this]; rfl
            · obtain ⟨e4, e5, e6, e8⟩ := E.out
              have hs := ((((hblk3.set 12 (.int .i64 0)).set 8 (.int .i64 (1 - v4))).set 7 (.int .i64 (1 - v5))).set 6 (.int .i64 (1 - v6))).set 4 (.int .i64 (1 - v8))
              have hr := red_cells C 12 (by decide) (by decide) HT.out
              simp only [Nat.reduceSub, ← e4, ← e5, ← e6, ← e8] at hr
              rw [hr] at hs
              exact hs
          | false =>
            rw [show bit C 12 = 0 by unfold bit; rw [if_neg (by rw [hbit]; decide)]] at c0
            have HT := Lib.hid hbit
            clear hbit
            go_wp2
            refine ⟨⟨11, redStep C 12, by decide, by decide, rfl, Lib.hid ?_, ?_, hbel3⟩, by simp [intOf]⟩
            · have := HC.out; rw [this]; rfl
            · have : redStep C 12 = C := by unfold redStep; rw [if_neg (by rw [HT.out]; decide)]
              rw [this]; exact hblk3
        · have hc := fun d (h : d < 15) => (hblk3.cell d).trans (bc_at C d h)
          obtain ⟨v4, e4⟩ : ∃ v, v = bit C 7 := ⟨_, rfl⟩
          obtain ⟨v5, e5⟩ : ∃ v, v = bit C 6 := ⟨_, rfl⟩
          obtain ⟨v6, e6⟩ : ∃ v, v = bit C 5 := ⟨_, rfl⟩
          obtain ⟨v8, e8⟩ : ∃ v, v = bit C 3 := ⟨_, rfl⟩
          have b4 := bit_le C 7; have b5 := bit_le C 6; have b6 := bit_le C 5; have b8 := bit_le C 3
          have c4 := hc 7 (by decide); have c5 := hc 6 (by decide); have c6 := hc 5 (by decide); have c8 := hc 3 (by decide); have c0 := hc 11 (by decide)
          rw [← e4] at b4 c4; rw [← e5] at b5 c5; rw [← e6] at b6 c6; rw [← e8] at b8 c8
          obtain ⟨b4l, b4h⟩ := b4; obtain ⟨b5l, b5h⟩ := b5; obtain ⟨b6l, b6h⟩ := b6; obtain ⟨b8l, b8h⟩ := b8
          have fz : ∀ d, wr.frozen? ⟨w.heap.size, d, none⟩ = false := hblk3.frozen
          have z0 := fz 11; have z4 := fz 7; have z5 := fz 6; have z6 := fz 5; have z8 := fz 3
          have E := Lib.hid (And.intro e4 (And.intro e5 (And.intro e6 e8)))
          clear e4 e5 e6 e8 hc fz
          cases hbit : C.testBit 11 with
          | true =>
            rw [show bit C 11 = 1 by unfold bit; rw [if_pos hbit]] at c0
            have HT := Lib.hid hbit
            clear hbit
            go_wp2
            refine ⟨⟨10, redStep C 11, by decide, by decide, rfl, Lib.hid ?_, ?_, bs (bs (bs (bs (bs hbel3 (Nat.le_refl _) _) (Nat.le_refl _) _) (Nat.le_refl _) _) (Nat.le_refl _) _) (Nat.le_refl _) _⟩, by simp [intOf]⟩
            · have := HC.out; rw [this]; rfl
            · obtain ⟨e4, e5, e6, e8⟩ := E.out
              have hs := ((((hblk3.set 11 (.int .i64 0)).set 7 (.int .i64 (1 - v4))).set 6 (.int .i64 (1 - v5))).set 5 (.int .i64 (1 - v6))).set 3 (.int .i64 (1 - v8))
              have hr := red_cells C 11 (by decide) (by decide) HT.out
              simp only [Nat.reduceSub, ← e4, ← e5, ← e6, ← e8] at hr
              rw [hr] at hs
              exact hs
          | false =>
            rw [show bit C 11 = 0 by unfold bit; rw [if_neg (by rw [hbit]; decide)]] at c0
            have HT := Lib.hid hbit
            clear hbit
            go_wp2
            refine ⟨⟨10, redStep C 11, by decide, by decide, rfl, Lib.hid ?_, ?_, hbel3⟩, by simp [intOf]⟩
            · have := HC.out; rw [this]; rfl
            · have : redStep C 11 = C := by unfold redStep; rw [if_neg (by rw [HT.out]; decide)]
              rw [this]; exact hblk3
        · have hc := fun d (h : d < 15) => (hblk3.cell d).trans (bc_at C d h)
          obtain ⟨v4, e4⟩ : ∃ v, v = bit C 6 := ⟨_, rfl⟩
          obtain ⟨v5, e5⟩ : ∃ v, v = bit C 5 := ⟨_, rfl⟩
          obtain ⟨v6, e6⟩ : ∃ v, v = bit C 4 := ⟨_, rfl⟩
          obtain ⟨v8, e8⟩ : ∃ v, v = bit C 2 := ⟨_, rfl⟩
          have b4 := bit_le C 6; have b5 := bit_le C 5; have b6 := bit_le C 4; have b8 := bit_le C 2
          have c4 := hc 6 (by decide); have c5 := hc 5 (by decide); have c6 := hc 4 (by decide); have c8 := hc 2 (by decide); have c0 := hc 10 (by decide)
          rw [← e4] at b4 c4; rw [← e5] at b5 c5; rw [← e6] at b6 c6; rw [← e8] at b8 c8
          obtain ⟨b4l, b4h⟩ := b4; obtain ⟨b5l, b5h⟩ := b5; obtain ⟨b6l, b6h⟩ := b6; obtain ⟨b8l, b8h⟩ := b8
          have fz : ∀ d, wr.frozen? ⟨w.heap.size, d, none⟩ = false := hblk3.frozen
          have z0 := fz 10; have z4 := fz 6; have z5 := fz 5; have z6 := fz 4; have z8 := fz 2
          have E := Lib.hid (And.intro e4 (And.intro e5 (And.intro e6 e8)))
          clear e4 e5 e6 e8 hc fz
          cases hbit : C.testBit 10 with
          | true =>
            rw [show bit C 10 = 1 by unfold bit; rw [if_pos hbit]] at c0
            have HT := Lib.hid hbit
            clear hbit
            go_wp2
            refine ⟨⟨9, redStep C 10, by decide, by decide, rfl, Lib.hid ?_, ?_, bs (bs (bs (bs (bs hbel3 (Nat.le_refl _) _) (Nat.le_refl _) _) (Nat.le_refl _) _) (Nat.le_refl _) _) (Nat.le_refl _) _⟩, by simp [intOf]⟩
            · have := HC.out; rw [this]; rfl
            · obtain ⟨e4, e5, e6, e8⟩ := E.out
              have hs := ((((hblk3.set 10 (.int .i64 0)).set 6 (.int .i64 (1 - v4))).set 5 (.int .i64 (1 - v5))).set 4 (.int .i64 (1 - v6))).set 2 (.int .i64 (1 - v8))
              have hr := red_cells C 10 (by decide) (by decide) HT.out
              simp only [Nat.reduceSub, ← e4, ← e5, ← e6, ← e8] at hr
              rw [hr] at hs
              exact hs
          | false =>
            rw [show bit C 10 = 0 by unfold bit; rw [if_neg (by rw [hbit]; decide)]] at c0
            have HT := Lib.hid hbit
            clear hbit
            go_wp2
            refine ⟨⟨9, redStep C 10, by decide, by decide, rfl, Lib.hid ?_, ?_, hbel3⟩, by simp [intOf]⟩
            · have := HC.out; rw [this]; rfl
            · have : redStep C 10 = C := by unfold redStep; rw [if_neg (by rw [HT.out]; decide)]
              rw [this]; exact hblk3
        · have hc := fun d (h : d < 15) => (hblk3.cell d).trans (bc_at C d h)
          obtain ⟨v4, e4⟩ : ∃ v, v = bit C 5 := ⟨_, rfl⟩
          obtain ⟨v5, e5⟩ : ∃ v, v = bit C 4 := ⟨_, rfl⟩
          obtain ⟨v6, e6⟩ : ∃ v, v = bit C 3 := ⟨_, rfl⟩
          obtain ⟨v8, e8⟩ : ∃ v, v = bit C 1 := ⟨_, rfl⟩
          have b4 := bit_le C 5; have b5 := bit_le C 4; have b6 := bit_le C 3; have b8 := bit_le C 1
          have c4 := hc 5 (by decide); have c5 := hc 4 (by decide); have c6 := hc 3 (by decide); have c8 := hc 1 (by decide); have c0 := hc 9 (by decide)
          rw [← e4] at b4 c4; rw [← e5] at b5 c5; rw [← e6] at b6 c6; rw [← e8] at b8 c8
          obtain ⟨b4l, b4h⟩ := b4; obtain ⟨b5l, b5h⟩ := b5; obtain ⟨b6l, b6h⟩ := b6; obtain ⟨b8l, b8h⟩ := b8
          have fz : ∀ d, wr.frozen? ⟨w.heap.size, d, none⟩ = false := hblk3.frozen
          have z0 := fz 9; have z4 := fz 5; have z5 := fz 4; have z6 := fz 3; have z8 := fz 1
          have E := Lib.hid (And.intro e4 (And.intro e5 (And.intro e6 e8)))
          clear e4 e5 e6 e8 hc fz
          cases hbit : C.testBit 9 with
          | true =>
            rw [show bit C 9 = 1 by unfold bit; rw [if_pos hbit]] at c0
            have HT := Lib.hid hbit
            clear hbit
            go_wp2
            refine ⟨⟨8, redStep C 9, by decide, by decide, rfl, Lib.hid ?_, ?_, bs (bs (bs (bs (bs hbel3 (Nat.le_refl _) _) (Nat.le_refl _) _) (Nat.le_refl _) _) (Nat.le_refl _) _) (Nat.le_refl _) _⟩, by simp [intOf]⟩
            · have := HC.out; rw [this]; rfl
            · obtain ⟨e4, e5, e6, e8⟩ := E.out
              have hs := ((((hblk3.set 9 (.int .i64 0)).set 5 (.int .i64 (1 - v4))).set 4 (.int .i64 (1 - v5))).set 3 (.int .i64 (1 - v6))).set 1 (.int .i64 (1 - v8))
              have hr := red_cells C 9 (by decide) (by decide) HT.out
              simp only [Nat.reduceSub, ← e4, ← e5, ← e6, ← e8] at hr
              rw [hr] at hs
              exact hs
          | false =>
            rw [show bit C 9 = 0 by unfold bit; rw [if_neg (by rw [hbit]; decide)]] at c0
            have HT := Lib.hid hbit
            clear hbit
            go_wp2
            refine ⟨⟨8, redStep C 9, by decide, by decide, rfl, Lib.hid ?_, ?_, hbel3⟩, by simp [intOf]⟩
            · have := HC.out; rw [this]; rfl
            · have : redStep C 9 = C := by unfold redStep; rw [if_neg (by rw [HT.out]; decide)]
              rw [this]; exact hblk3
        · have hc := fun d (h : d < 15) => (hblk3.cell d).trans (bc_at C d h)
          obtain ⟨v4, e4⟩ : ∃ v, v = bit C 4 := ⟨_, rfl⟩
          obtain ⟨v5, e5⟩ : ∃ v, v = bit C 3 := ⟨_, rfl⟩
          obtain ⟨v6, e6⟩ : ∃ v, v = bit C 2 := ⟨_, rfl⟩
          obtain ⟨v8, e8⟩ : ∃ v, v = bit C 0 := ⟨_, rfl⟩
          have b4 := bit_le C 4; have b5 := bit_le C 3; have b6 := bit_le C 2; have b8 := bit_le C 0
          have c4 := hc 4 (by decide); have c5 := hc 3 (by decide); have c6 := hc 2 (by decide); have c8 := hc 0 (by decide); have c0 := hc 8 (by decide)
          rw [← e4] at b4 c4; rw [← e5] at b5 c5; rw [← e6] at b6 c6; rw [← e8] at b8 c8
          obtain ⟨b4l, b4h⟩ := b4; obtain ⟨b5l, b5h⟩ := b5; obtain ⟨b6l, b6h⟩ := b6; obtain ⟨b8l, b8h⟩ := b8
          have fz : ∀ d, wr.frozen? ⟨w.heap.size, d, none⟩ = false := hblk3.frozen
          have z0 := fz 8; have z4 := fz 4; have z5 := fz 3; have z6 := fz 2; have z8 := fz 0
          have E := Lib.hid (And.intro e4 (And.intro e5 (And.intro e6 e8)))
          clear e4 e5 e6 e8 hc fz
          cases hbit : C.testBit 8 with
          | true =>
            rw [show bit C 8 = 1 by unfold bit; rw [if_pos hbit]] at c0
            have HT := Lib.hid hbit
            clear hbit
            go_wp2
            refine ⟨⟨7, redStep C 8, by decide, by decide, rfl, Lib.hid ?_, ?_, bs (bs (bs (bs (bs hbel3 (Nat.le_refl _) _) (Nat.le_refl _) _) (Nat.le_refl _) _) (Nat.le_refl _) _) (Nat.le_refl _) _⟩, by simp [intOf]⟩
            · have := HC.out; rw [this]; rfl
            · obtain ⟨e4, e5, e6, e8⟩ := E.out
              have hs := ((((hblk3.set 8 (.int .i64 0)).set 4 (.int .i64 (1 - v4))).set 3 (.int .i64 (1 - v5))).set 2 (.int .i64 (1 - v6))).set 0 (.int .i64 (1 - v8))
              have hr := red_cells C 8 (by decide) (by decide) HT.out
              simp only [Nat.reduceSub, ← e4, ← e5, ← e6, ← e8] at hr
              rw [hr] at hs
              exact hs
          | false =>
            rw [show bit C 8 = 0 by unfold bit; rw [if_neg (by rw [hbit]; decide)]] at c0
            have HT := Lib.hid hbit
            clear hbit
            go_wp2
            refine ⟨⟨7, redStep C 8, by decide, by decide, rfl, Lib.hid ?_, ?_, hbel3⟩, by simp [intOf]⟩
            · have := HC.out; rw [this]; rfl
            · have : redStep C 8 = C := by unfold redStep; rw [if_neg (by rw [HT.out]; decide)]
              rw [this]; exact hblk3
        · go_wp2
          go_loopw [11, 12] (fun n i wr2 => ∃ j m : Nat, j ≤ 8 ∧ m < 256 ∧ i = .int .i64 ((j : Int) - 1) ∧ n = .int .i64 m ∧ Hid (m = C % 256 / 2 ^ j) ∧ wr2 = wr) (fun _ i _ => (intOf i + 1).toNat)
          case atStart => exact ⟨8, 0, by decide, by decide, rfl, rfl, Lib.hid (by omega), rfl⟩
          case round =>
            obtain ⟨j, m, hj, hm, rfl, rfl, HM, rfl⟩ := hrel
            rcases j with _ | q
            · go_wp2
              go_ret
              refine ⟨?_, hbel3⟩
              have e1 := HM.out
              have e2 := HC.out
              have e3 := HX.out.2
              have : m = gmul a b := by rw [e1, e2, e3]; simp [gmul]
              subst this
              first | rfl | (congr 1; omega)
            · obtain ⟨v, hv⟩ : ∃ v, v = bit C q := ⟨_, rfl⟩
              obtain ⟨hv0, hv1⟩ : 0 ≤ v ∧ v ≤ 1 := by rw [hv]; exact bit_le C q
              have c0 := (hblk3.cell q).trans (bc_at C q (by omega))
              rw [← hv] at c0
              have HV := Lib.hid hv
              clear hv
              rw [show (((q + 1 : Nat) : Int) - 1) = (q : Int) by omega]
              go_wp2
              have hh : 2 * m + v.toNat = C % 256 / 2 ^ q := by
                rw [HM.out, HV.out, ← horner (C % 256) q]
                unfold bit
                have : (C % 256).testBit q = C.testBit q := by
                  have := Nat.testBit_mod_two_pow C 8 q
                  rw [show (2 : Nat) ^ 8 = 256 from rfl] at this
                  rw [this]; simp; omega
                rw [this]
                cases C.testBit q <;> simp
              have hlt : C % 256 / 2 ^ q < 256 := Nat.lt_of_le_of_lt (Nat.div_le_self _ _) (by omega)
              refine ⟨⟨q, 2 * m + v.toNat, by omega, by omega, by go_num, ?_, Lib.hid hh, trivial⟩, by first | (simp [intOf]; done) | (simp [intOf]; omega)⟩
              exact congrArg (Value.int .i64) (by omega)
end Go.Proofs.Ytgojbngdncligaa.RefMul
