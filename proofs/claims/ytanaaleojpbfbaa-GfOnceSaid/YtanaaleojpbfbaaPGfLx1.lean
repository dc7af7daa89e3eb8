-- written by a program of this session (pr.py) for this claim
import Derived.Test.YtanaaleojpbfbaaPGfLx0
namespace Go.Proofs.Ytanaaleojpbfbaa.PGfL
open Go.RowKit Go.Proofs.YtanaaleojpbfbaaW.PrintWords Go.Proofs.YtanaaleojpbfbaaW.PrintLast Go.Proofs.YtanaaleojpbfbaaW.PrintMore
attribute [local go_sem] max2_int min2_int max_two min_two max_three min_three max_four min_four   -- for this text's walks alone
set_option linter.unusedVariables false
set_option linter.unusedSimpArgs false

/-! ### lanes_each: function 52 -/
def lanes_each.f (a0 : Int) (a1 : Int) : Option (Int) := if 0 ≤ a1 then (some (Go.bits .and .u64 (shr .u64 a0 a1) 72340172838076673)) else (none)
set_option maxHeartbeats 8000000 in
set_option maxRecDepth 100000 in
theorem lanes_each.calls (a0 : Int) (a1 : Int) (r : Int) (w : World) (h : lanes_each.f a0 a1 = some r) :
    Calls Try.prog 52 #[.int .u64 a0, .int .i64 a1] w fun e w' => e = .returned (.int .u64 r) ∧ Drawn0 w w' := by
  have H : (if 0 ≤ a1 then (some (Go.bits .and .u64 (shr .u64 a0 a1) 72340172838076673)) else (none)) = some r := h
  clear h
  by_cases c3 : 0 ≤ a1
  · rw [if_pos c3] at H
    have c3b0 := eq_true c3
    have c3b1 : decide (0 ≤ a1) = true := decide_eq_true c3
    clear c3
    obtain ⟨ji4, hji4⟩ : ∃ j_ : Int, (shr .u64 a0 a1) = j_ := ⟨_, rfl⟩
    replace H : (some (Go.bits .and .u64 (ji4) 72340172838076673)) = some r := by first | (rw [hji4] at H; exact H) | (simp only [hji4] at H ⊢; exact H)
    have hji4_ : (a0 / 2 ^ min a1.toNat 64) = ji4 := hji4
    have hji4z : a1 ≤ 64 → (a0 / 2 ^ a1.toNat) = ji4 := shr_small hji4
    obtain rfl := Option.some.inj H
    go_enter Try.func52, Try.ntmps52
    go_wp2
    go_ret
    exact ⟨by first | rfl | (simp; done) | (simp only [← hji4] <;> (first | rfl | simp)) | (simp [*]; done), by repeat (first | exact Drawn0.refl _ | apply Drawn0.step)⟩
  · rw [if_neg c3] at H
    exact absurd H (by simp)

/-! ### lanes_Twice: function 47 -/
def lanes_Twice.f (a0 : Int) : Option (Int) := (lanes_each.f a0 7).bind fun t101 => (some (Go.bits .xor .u64 (IntKind.u64.wrap ((Go.bits .andNot .u64 a0 9259542123273814144) * 2)) (IntKind.u64.wrap (t101 * 29))))
set_option maxHeartbeats 8000000 in
set_option maxRecDepth 100000 in
theorem lanes_Twice.calls (a0 : Int) (r : Int) (w : World) (h : lanes_Twice.f a0 = some r) :
    Calls Try.prog 47 #[.int .u64 a0] w fun e w' => e = .returned (.int .u64 r) ∧ Drawn0 w w' := by
  have H : ((lanes_each.f a0 7).bind fun t101 => (some (Go.bits .xor .u64 (IntKind.u64.wrap ((Go.bits .andNot .u64 a0 9259542123273814144) * 2)) (IntKind.u64.wrap (t101 * 29))))) = some r := h
  clear h
  replace H := Option.bind_eq_some_iff.mp H
  obtain ⟨t101, A20, H⟩ := H
  replace H : (some (Go.bits .xor .u64 (IntKind.u64.wrap ((Go.bits .andNot .u64 a0 9259542123273814144) * 2)) (IntKind.u64.wrap (t101 * 29)))) = some r := H
  have A2 := Aside0.mk A20
  clear A20
  obtain rfl := Option.some.inj H
  go_enter Try.func47, Try.ntmps47
  go_wp2_with (first | ((with_reducible refine gate_callee (f := 52) rfl ?_); refine goesL_ (some 7) rfl rfl Try.func52 (by kernel_rfl) rfl #[.int .u64 a0, .int .i64 7] rfl (by (try simp only [List.map_toArray, List.map_cons, List.map_nil]); first | done | rfl | (simp only [List.length_drop, List.length_take]; rfl)) ?_; (with_reducible refine (lanes_each.calls a0 7 t101 _ A2.out).mono ?_); rintro e w' ⟨rfl, ⟨nd, rfl⟩⟩; refine ⟨_, rfl, ?_⟩))
  go_ret
  exact ⟨by first | rfl | (simp; done) | (simp [*]; done), by repeat (first | exact Drawn0.refl _ | apply Drawn0.step)⟩

/-! ### lanes_Times: function 41 -/
def lanes_Times.l0 : Nat → Int → Int → Int → Option (Int)
  | 0, _, _, _ => none
  | k + 1, x0, x1, x5 => if x1 = 0 then (some x5) else (if (Go.bits .and .u8 x1 1) = 1 then ((lanes_Twice.f x0).bind fun t102 => (lanes_Times.l0 k t102 (x1 / 2) (Go.bits .xor .u64 x5 x0))) else ((lanes_Twice.f x0).bind fun t103 => (lanes_Times.l0 k t103 (x1 / 2) x5)))
def lanes_Times.f (k : Nat) (a0 : Int) (a1 : Int) : Option (Int) := lanes_Times.l0 k a0 a1 0
theorem lanes_Times.mono_l : ∀ k, (∀ y0 y1 y2, LeO (lanes_Times.l0 k y0 y1 y2) (lanes_Times.l0 (k + 1) y0 y1 y2))
  | 0 => fun _ _ _ r h => by simp [lanes_Times.l0] at h
  | k + 1 => by
    have ih0 := lanes_Times.mono_l k
    · intro y0 y1 y2
      unfold lanes_Times.l0
      repeat' first
      | (with_reducible exact ih0 _ _ _)
      | (with_reducible exact LeO.refl _)
      | (with_reducible exact LeO.none _)
      | (with_reducible refine LeO.ite ?_ ?_)
      | (with_reducible refine LeO.bind ?_ (fun _ => ?_))
      | exact ih0 _ _ _
      | exact LeO.none _
      | refine LeO.ite ?_ ?_
      | refine LeO.bind ?_ (fun _ => ?_)
theorem lanes_Times.mono : ∀ a0 a1 k, LeO (lanes_Times.f k a0 a1) (lanes_Times.f (k + 1) a0 a1) := by
  intro a0 a1 k
  have ih0 := lanes_Times.mono_l k
  unfold lanes_Times.f
  repeat' first
      | (with_reducible exact ih0 _ _ _)
      | (with_reducible exact LeO.refl _)
      | (with_reducible exact LeO.none _)
      | (with_reducible refine LeO.ite ?_ ?_)
      | (with_reducible refine LeO.bind ?_ (fun _ => ?_))
      | exact ih0 _ _ _
      | exact LeO.none _
      | refine LeO.ite ?_ ?_
      | refine LeO.bind ?_ (fun _ => ?_)
set_option maxHeartbeats 8000000 in
set_option maxRecDepth 100000 in
theorem lanes_Times.calls (k : Nat) (a0 : Int) (a1 : Int) (r : Int) (w : World) (h : lanes_Times.f k a0 a1 = some r) :
    Calls Try.prog 41 #[.int .u64 a0, .int .u8 a1] w fun e w' => e = .returned (.int .u64 r) ∧ Drawn0 w w' := by
  have H : (lanes_Times.l0 k a0 a1 0) = some r := h
  clear h
  have H' := Aside0.mk H
  clear H
  go_enter Try.func41, Try.ntmps41
  go_wp2
  go_loopg [0, 1, 5] k (fun kq v0 v1 v5 w' => ∃ (x0_1 : Int) (x1_1 : Int) (x5_1 : Int), v0 = .int .u64 x0_1 ∧ v1 = .int .u8 x1_1 ∧ v5 = .int .u64 x5_1 ∧ Aside0 (lanes_Times.l0 kq x0_1 x1_1 x5_1 = some r) ∧ Aside0 (kq ≤ k) ∧ Drawn0 w w')
  case atStart => exact ⟨(a0), (a1), (0), (by first | rfl | (simp; done) | (simp [*]; done)), (by first | rfl | (simp; done) | (simp [*]; done)), (by first | rfl | (simp; done) | (simp [*]; done)), H', ⟨Nat.le_refl _⟩, by repeat (first | exact Drawn0.refl _ | apply Drawn0.step)⟩
  case round =>
    clear H'
    try clear p2
    obtain ⟨x0_1, x1_1, x5_1, rfl, rfl, rfl, HA, HK1, ⟨m1, rfl⟩⟩ := hrel
    cases gk with
    | zero => exact absurd HA.out (by simp [lanes_Times.l0])
    | succ k1 =>
      have H := HA.out
      clear HA
      simp only [lanes_Times.l0] at H
      by_cases c3 : x1_1 = 0
      · rw [if_pos c3] at H
        have c3b0 : (x1_1 == 0) = true := beq_iff_eq.mpr c3
        have c3b1 : (x1_1 != 0) = false := bne_eq_false_iff_eq.mpr c3
        clear c3
        obtain rfl := Option.some.inj H
        go_wp2
        go_ret
        exact ⟨by first | rfl | (simp; done) | (simp [*]; done), by repeat (first | exact Drawn0.refl _ | apply Drawn0.step)⟩
      · rw [if_neg c3] at H
        have c3b0 : (x1_1 == 0) = false := beq_eq_false_iff_ne.mpr c3
        have c3b1 : (x1_1 != 0) = true := bne_iff_ne.mpr c3
        by_cases c4 : (Go.bits .and .u8 x1_1 1) = 1
        · rw [if_pos c4] at H
          have c4b0 : ((Go.bits .and .u8 x1_1 1) == 1) = true := beq_iff_eq.mpr c4
          have c4b1 : ((Go.bits .and .u8 x1_1 1) != 1) = false := bne_eq_false_iff_eq.mpr c4
          clear c4
          replace H := Option.bind_eq_some_iff.mp H
          obtain ⟨t102, A50, H⟩ := H
          replace H : (lanes_Times.l0 k1 t102 (x1_1 / 2) (Go.bits .xor .u64 x5_1 x0_1)) = some r := H
          have A5 := Aside0.mk A50
          clear A50
          have H' := Aside0.mk H
          clear H
          go_wp2_with (first | ((with_reducible refine gate_callee (f := 47) rfl ?_); refine goesL_ (some 17) rfl rfl Try.func47 (by kernel_rfl) rfl #[.int .u64 x0_1] rfl (by (try simp only [List.map_toArray, List.map_cons, List.map_nil]); first | done | rfl | (simp only [List.length_drop, List.length_take]; rfl)) ?_; (with_reducible refine (lanes_Twice.calls x0_1 t102 _ A5.out).mono ?_); rintro e w' ⟨rfl, ⟨nd, rfl⟩⟩; refine ⟨_, rfl, ?_⟩))
          go_roundg k1
          case measure => have := HK1.out; omega
          case rel => exact ⟨(t102), (x1_1 / 2), (Go.bits .xor .u64 x5_1 x0_1), (by first | rfl | (simp; done) | (simp [*]; done)), (by first | rfl | (simp; done) | (simp [*]; done)), (by first | rfl | (simp; done) | (simp [*]; done)), H', ⟨by have := HK1.out; omega⟩, by repeat (first | exact Drawn0.refl _ | apply Drawn0.step)⟩
        · rw [if_neg c4] at H
          have c4b0 : ((Go.bits .and .u8 x1_1 1) == 1) = false := beq_eq_false_iff_ne.mpr c4
          have c4b1 : ((Go.bits .and .u8 x1_1 1) != 1) = true := bne_iff_ne.mpr c4
          replace H := Option.bind_eq_some_iff.mp H
          obtain ⟨t103, A60, H⟩ := H
          replace H : (lanes_Times.l0 k1 t103 (x1_1 / 2) x5_1) = some r := H
          have A6 := Aside0.mk A60
          clear A60
          have H' := Aside0.mk H
          clear H
          go_wp2_with (first | ((with_reducible refine gate_callee (f := 47) rfl ?_); refine goesL_ (some 17) rfl rfl Try.func47 (by kernel_rfl) rfl #[.int .u64 x0_1] rfl (by (try simp only [List.map_toArray, List.map_cons, List.map_nil]); first | done | rfl | (simp only [List.length_drop, List.length_take]; rfl)) ?_; (with_reducible refine (lanes_Twice.calls x0_1 t103 _ A6.out).mono ?_); rintro e w' ⟨rfl, ⟨nd, rfl⟩⟩; refine ⟨_, rfl, ?_⟩))
          go_roundg k1
          case measure => have := HK1.out; omega
          case rel => exact ⟨(t103), (x1_1 / 2), (x5_1), (by first | rfl | (simp; done) | (simp [*]; done)), (by first | rfl | (simp; done) | (simp [*]; done)), (by first | rfl | (simp; done) | (simp [*]; done)), H', ⟨by have := HK1.out; omega⟩, by repeat (first | exact Drawn0.refl _ | apply Drawn0.step)⟩

/-! ### gf_Product: function 22 -/
def gf_Product.f (k : Nat) (a0 : Int) (a1 : Int) : Option (Int) := (lanes_Times.f k (IntKind.u64.wrap (a0)) a1).bind fun t104 => (some ((t104) % 256))
theorem gf_Product.mono : ∀ a0 a1 k, LeO (gf_Product.f k a0 a1) (gf_Product.f (k + 1) a0 a1) := by
  intro a0 a1 k
  unfold gf_Product.f
  repeat' first
      | (with_reducible exact lanes_Times.mono _ _ _)
      | (with_reducible exact LeO.refl _)
      | (with_reducible exact LeO.none _)
      | (with_reducible refine LeO.ite ?_ ?_)
      | (with_reducible refine LeO.bind ?_ (fun _ => ?_))
      | exact lanes_Times.mono _ _ _
      | exact LeO.none _
      | refine LeO.ite ?_ ?_
      | refine LeO.bind ?_ (fun _ => ?_)
set_option maxHeartbeats 8000000 in
set_option maxRecDepth 100000 in
theorem gf_Product.calls (k : Nat) (a0 : Int) (a1 : Int) (r : Int) (w : World) (h : gf_Product.f k a0 a1 = some r) :
    Calls Try.prog 22 #[.int .u8 a0, .int .u8 a1] w fun e w' => e = .returned (.int .u8 r) ∧ Drawn0 w w' := by
  have H : ((lanes_Times.f k (IntKind.u64.wrap (a0)) a1).bind fun t104 => (some ((t104) % 256))) = some r := h
  clear h
  replace H := Option.bind_eq_some_iff.mp H
  obtain ⟨t104, A30, H⟩ := H
  replace H : (some ((t104) % 256)) = some r := H
  have A3 := Aside0.mk A30
  clear A30
  obtain rfl := Option.some.inj H
  go_enter Try.func22, Try.ntmps22
  go_wp2_with (first | ((with_reducible refine gate_callee (f := 41) rfl ?_); refine goesL_ (some 8) rfl rfl Try.func41 (by kernel_rfl) rfl #[.int .u64 (IntKind.u64.wrap (a0)), .int .u8 a1] rfl (by (try simp only [List.map_toArray, List.map_cons, List.map_nil]); first | done | rfl | (simp only [List.length_drop, List.length_take]; rfl)) ?_; (with_reducible refine (lanes_Times.calls k (IntKind.u64.wrap (a0)) a1 t104 _ A3.out).mono ?_); rintro e w' ⟨rfl, ⟨nd, rfl⟩⟩; refine ⟨_, rfl, ?_⟩))
  go_ret
  exact ⟨by first | rfl | (simp; done) | (simp [*]; done), by repeat (first | exact Drawn0.refl _ | apply Drawn0.step)⟩

-- NOT PRINTED: function 23 (trunnionref01_Mul)

-- NOT PRINTED: function 35 (trunnionref02_Div)

-- NOT PRINTED: function 36 (trunnionref02_Log)

-- NOT PRINTED: function 37 (trunnionref02_Exp)

end Go.Proofs.Ytanaaleojpbfbaa.PGfL
