-- written by a program of this session (pr.py) for this claim
import Derived.Test.YtanaaleojpbfbaaPGfRx0
namespace Go.Proofs.Ytanaaleojpbfbaa.PGfR
open Go.RowKit Go.Proofs.YtanaaleojpbfbaaW.PrintWords Go.Proofs.YtanaaleojpbfbaaW.PrintLast Go.Proofs.YtanaaleojpbfbaaW.PrintMore
attribute [local go_sem] max2_int min2_int max_two min_two max_three min_three max_four min_four   -- for this text's walks alone
set_option linter.unusedVariables false
set_option linter.unusedSimpArgs false

/-! ### trunnionref01_Mul: function 23 -/
def trunnionref01_Mul.f (a0 a1 : Int) : Option (Int) := if 0 ≤ a0 ∧ a0 < 256 ∧ 0 ≤ a1 ∧ a1 < 256 then some (Gmul.gmul a0.toNat a1.toNat : Nat) else none
theorem trunnionref01_Mul.calls (a0 a1 : Int) (r : Int) (w : World) (h : trunnionref01_Mul.f a0 a1 = some r) :
    Calls Try.prog 23 #[.int .u8 a0, .int .u8 a1] w fun e w' => e = .returned (.int .u8 r) ∧ Below w.heap.size w w' := by
  unfold trunnionref01_Mul.f at h
  split at h
  · rename_i hc
    obtain rfl := Option.some.inj h
    have := RefMul.mul_calls a0.toNat a1.toNat (by omega) (by omega) w
    rwa [Int.toNat_of_nonneg hc.1, Int.toNat_of_nonneg hc.2.2.1] at this
  · cases h


/-! ### trunnionref02_Div: function 35 -/
def trunnionref02_Div.l0 : Nat → Int → Int → Int → Option (Int × Int)
  | 0, _, _, _ => none
  | k + 1, x0, x1, x6 => if x6 < 256 then ((trunnionref01_Mul.f ((x6) % 256) x1).bind fun t101 => (if t101 = x0 then (some ((x6) % 256, 0)) else (trunnionref02_Div.l0 k x0 x1 (wrap64 (x6 + 1))))) else (some (0, 5))
def trunnionref02_Div.f (k : Nat) (a0 : Int) (a1 : Int) : Option (Int × Int) := if a1 = 0 then (some (0, 5)) else (trunnionref02_Div.l0 k a0 a1 0)
theorem trunnionref02_Div.mono_l : ∀ k, (∀ y0 y1 y2, LeO (trunnionref02_Div.l0 k y0 y1 y2) (trunnionref02_Div.l0 (k + 1) y0 y1 y2))
  | 0 => fun _ _ _ r h => by simp [trunnionref02_Div.l0] at h
  | k + 1 => by
    have ih0 := trunnionref02_Div.mono_l k
    · intro y0 y1 y2
      unfold trunnionref02_Div.l0
      repeat' first
      | (with_reducible exact ih0 _ _ _)
      | (with_reducible exact LeO.refl _)
      | (with_reducible exact LeO.none _)
      | (with_reducible refine LeO.ite ?_ ?_)
      | (with_reducible refine LeO.bind ?_ (fun _ => ?_))
      | exact ih0 _ _ _
      | exact LeO.none _
      | refine LeO.ite ?_ ?_
      | refine LeO.bind ?_ (fun _ => ?_)
theorem trunnionref02_Div.mono : ∀ a0 a1 k, LeO (trunnionref02_Div.f k a0 a1) (trunnionref02_Div.f (k + 1) a0 a1) := by
  intro a0 a1 k
  have ih0 := trunnionref02_Div.mono_l k
  unfold trunnionref02_Div.f
  repeat' first
      | (with_reducible exact ih0 _ _ _)
      | (with_reducible exact LeO.refl _)
      | (with_reducible exact LeO.none _)
      | (with_reducible refine LeO.ite ?_ ?_)
      | (with_reducible refine LeO.bind ?_ (fun _ => ?_))
      | exact ih0 _ _ _
      | exact LeO.none _
      | refine LeO.ite ?_ ?_
      | refine LeO.bind ?_ (fun _ => ?_)
set_option maxHeartbeats 8000000 in
set_option maxRecDepth 100000 in
theorem trunnionref02_Div.calls (k : Nat) (a0 : Int) (a1 : Int) (r1 : Int) (r2 : Int) (w : World) (h : trunnionref02_Div.f k a0 a1 = some (r1, r2)) :
    Calls Try.prog 35 #[.int .u8 a0, .int .u8 a1] w fun e w' => e = .returned (.tuple #[.int .u8 r1, .int .i64 r2]) ∧ Below w.heap.size w w' := by
  have HB := Aside0.mk (Below.refl w.heap.size w)
  have H : (if a1 = 0 then (some (0, 5)) else (trunnionref02_Div.l0 k a0 a1 0)) = some (r1, r2) := h
  clear h
  by_cases c3 : a1 = 0
  · rw [if_pos c3] at H
    have c3b0 : (a1 == 0) = true := beq_iff_eq.mpr c3
    have c3b1 : (a1 != 0) = false := bne_eq_false_iff_eq.mpr c3
    clear c3
    simp only [Option.some.injEq, Prod.mk.injEq] at H
    obtain ⟨rfl, rfl⟩ := H
    go_enter Try.func35, Try.ntmps35
    go_wp2
    go_ret2
    exact ⟨by first | rfl | (simp [errW_none, errW_some] <;> rfl) | (simp [*, errW_none, errW_some] <;> rfl), by repeat (first | (with_reducible first | exact HB.out | apply below_alloc | apply pw_below_drewN | apply below_drew1) | exact HB.out)⟩
  · rw [if_neg c3] at H
    have c3b0 : (a1 == 0) = false := beq_eq_false_iff_ne.mpr c3
    have c3b1 : (a1 != 0) = true := bne_iff_ne.mpr c3
    have H' := Aside0.mk H
    clear H
    go_enter Try.func35, Try.ntmps35
    go_wp2
    go_loopg [6] k (fun kq v6 w' => ∃ (x6_1 : Int), v6 = .int .i64 x6_1 ∧ Aside0 (trunnionref02_Div.l0 kq a0 a1 x6_1 = some (r1, r2)) ∧ Aside0 (kq ≤ k) ∧ Aside0 (Below w.heap.size w w'))
    case atStart => exact ⟨(0), (by first | rfl | (simp; done) | (simp [*]; done)), H', ⟨Nat.le_refl _⟩, ⟨by repeat (first | (with_reducible first | exact HB.out | apply below_alloc | apply pw_below_drewN | apply below_drew1) | exact HB.out)⟩⟩
    case round =>
      clear H'
      try clear p2
      try clear c3
      try clear c3b0
      try clear c3b1
      obtain ⟨x6_1, rfl, HA, HK1, HB⟩ := hrel
      cases gk with
      | zero => exact absurd HA.out (by simp [trunnionref02_Div.l0])
      | succ k1 =>
        have H := HA.out
        clear HA
        simp only [trunnionref02_Div.l0] at H
        by_cases c4 : x6_1 < 256
        · rw [if_pos c4] at H
          have c4b0 : decide (x6_1 < 256) = true := decide_eq_true c4
          clear c4
          replace H := Option.bind_eq_some_iff.mp H
          obtain ⟨t101, A50, H⟩ := H
          replace H : (if t101 = a0 then (some ((x6_1) % 256, 0)) else (trunnionref02_Div.l0 k1 a0 a1 (wrap64 (x6_1 + 1)))) = some (r1, r2) := H
          have A5 := Aside0.mk A50
          clear A50
          by_cases c6 : t101 = a0
          · rw [if_pos c6] at H
            have c6b0 : (t101 == a0) = true := beq_iff_eq.mpr c6
            have c6b1 : (t101 != a0) = false := bne_eq_false_iff_eq.mpr c6
            clear c6
            simp only [Option.some.injEq, Prod.mk.injEq] at H
            obtain ⟨rfl, rfl⟩ := H
            go_wp2_with (first | ((with_reducible refine gate_callee (f := 23) rfl ?_); refine goesL_ (some 17) rfl rfl Try.func23 (by kernel_rfl) rfl #[.int .u8 ((x6_1) % 256), .int .u8 a1] rfl (by (try simp only [List.map_toArray, List.map_cons, List.map_nil]); first | done | rfl | (simp only [List.length_drop, List.length_take]; rfl)) ?_; (with_reducible refine (trunnionref01_Mul.calls ((x6_1) % 256) a1 t101 _ A5.out).mono ?_); rintro e w7 ⟨rfl, hb⟩; refine ⟨_, rfl, ?_⟩; have n0_ := Aside0.mk (below_step (by repeat (first | (with_reducible first | exact HB.out | apply below_alloc | apply pw_below_drewN | apply below_drew1) | exact HB.out)) hb); clear HB; have HB := n0_; clear n0_; (try clear hb); (try clear hb2); (try clear hk); (try clear hi)))
            go_ret2
            exact ⟨by first | rfl | (simp [errW_none, errW_some] <;> rfl) | (simp [*, errW_none, errW_some] <;> rfl), by repeat (first | (with_reducible first | exact HB.out | apply below_alloc | apply pw_below_drewN | apply below_drew1) | exact HB.out)⟩
          · rw [if_neg c6] at H
            have c6b0 : (t101 == a0) = false := beq_eq_false_iff_ne.mpr c6
            have c6b1 : (t101 != a0) = true := bne_iff_ne.mpr c6
            have H' := Aside0.mk H
            clear H
            go_wp2_with (first | ((with_reducible refine gate_callee (f := 23) rfl ?_); refine goesL_ (some 17) rfl rfl Try.func23 (by kernel_rfl) rfl #[.int .u8 ((x6_1) % 256), .int .u8 a1] rfl (by (try simp only [List.map_toArray, List.map_cons, List.map_nil]); first | done | rfl | (simp only [List.length_drop, List.length_take]; rfl)) ?_; (with_reducible refine (trunnionref01_Mul.calls ((x6_1) % 256) a1 t101 _ A5.out).mono ?_); rintro e w8 ⟨rfl, hb⟩; refine ⟨_, rfl, ?_⟩; have n0_ := Aside0.mk (below_step (by repeat (first | (with_reducible first | exact HB.out | apply below_alloc | apply pw_below_drewN | apply below_drew1) | exact HB.out)) hb); clear HB; have HB := n0_; clear n0_; (try clear hb); (try clear hb2); (try clear hk); (try clear hi)))
            go_roundg k1
            case measure => have := HK1.out; omega
            case rel => exact ⟨(wrap64 (x6_1 + 1)), (by first | rfl | (simp; done) | (simp [*]; done)), H', ⟨by have := HK1.out; omega⟩, ⟨by repeat (first | (with_reducible first | exact HB.out | apply below_alloc | apply pw_below_drewN | apply below_drew1) | exact HB.out)⟩⟩
        · rw [if_neg c4] at H
          have c4b0 : decide (x6_1 < 256) = false := decide_eq_false c4
          clear c4
          simp only [Option.some.injEq, Prod.mk.injEq] at H
          obtain ⟨rfl, rfl⟩ := H
          go_wp2
          go_ret2
          exact ⟨by first | rfl | (simp [errW_none, errW_some] <;> rfl) | (simp [*, errW_none, errW_some] <;> rfl), by repeat (first | (with_reducible first | exact HB.out | apply below_alloc | apply pw_below_drewN | apply below_drew1) | exact HB.out)⟩

/-! ### trunnionref02_Log: function 36 -/
def trunnionref02_Log.l0 : Nat → Int → Int → Int → Option (Int × Int)
  | 0, _, _, _ => none
  | k + 1, x0, x4, x5 => if x5 < 255 then (if x4 = x0 then (some (x5, 0)) else ((trunnionref01_Mul.f x4 2).bind fun t102 => (trunnionref02_Log.l0 k x0 t102 (wrap64 (x5 + 1))))) else (some (0, 5))
def trunnionref02_Log.f (k : Nat) (a0 : Int) : Option (Int × Int) := trunnionref02_Log.l0 k a0 1 0
theorem trunnionref02_Log.mono_l : ∀ k, (∀ y0 y1 y2, LeO (trunnionref02_Log.l0 k y0 y1 y2) (trunnionref02_Log.l0 (k + 1) y0 y1 y2))
  | 0 => fun _ _ _ r h => by simp [trunnionref02_Log.l0] at h
  | k + 1 => by
    have ih0 := trunnionref02_Log.mono_l k
    · intro y0 y1 y2
      unfold trunnionref02_Log.l0
      repeat' first
      | (with_reducible exact ih0 _ _ _)
      | (with_reducible exact LeO.refl _)
      | (with_reducible exact LeO.none _)
      | (with_reducible refine LeO.ite ?_ ?_)
      | (with_reducible refine LeO.bind ?_ (fun _ => ?_))
      | exact ih0 _ _ _
      | exact LeO.none _
      | refine LeO.ite ?_ ?_
      | refine LeO.bind ?_ (fun _ => ?_)
theorem trunnionref02_Log.mono : ∀ a0 k, LeO (trunnionref02_Log.f k a0) (trunnionref02_Log.f (k + 1) a0) := by
  intro a0 k
  have ih0 := trunnionref02_Log.mono_l k
  unfold trunnionref02_Log.f
  repeat' first
      | (with_reducible exact ih0 _ _ _)
      | (with_reducible exact LeO.refl _)
      | (with_reducible exact LeO.none _)
      | (with_reducible refine LeO.ite ?_ ?_)
      | (with_reducible refine LeO.bind ?_ (fun _ => ?_))
      | exact ih0 _ _ _
      | exact LeO.none _
      | refine LeO.ite ?_ ?_
      | refine LeO.bind ?_ (fun _ => ?_)
set_option maxHeartbeats 8000000 in
set_option maxRecDepth 100000 in
theorem trunnionref02_Log.calls (k : Nat) (a0 : Int) (r1 : Int) (r2 : Int) (w : World) (h : trunnionref02_Log.f k a0 = some (r1, r2)) :
    Calls Try.prog 36 #[.int .u8 a0] w fun e w' => e = .returned (.tuple #[.int .i64 r1, .int .i64 r2]) ∧ Below w.heap.size w w' := by
  have HB := Aside0.mk (Below.refl w.heap.size w)
  have H : (trunnionref02_Log.l0 k a0 1 0) = some (r1, r2) := h
  clear h
  have H' := Aside0.mk H
  clear H
  go_enter Try.func36, Try.ntmps36
  go_wp2
  go_loopg [4, 5] k (fun kq v4 v5 w' => ∃ (x4_1 : Int) (x5_1 : Int), v4 = .int .u8 x4_1 ∧ v5 = .int .i64 x5_1 ∧ Aside0 (trunnionref02_Log.l0 kq a0 x4_1 x5_1 = some (r1, r2)) ∧ Aside0 (kq ≤ k) ∧ Aside0 (Below w.heap.size w w'))
  case atStart => exact ⟨(1), (0), (by first | rfl | (simp; done) | (simp [*]; done)), (by first | rfl | (simp; done) | (simp [*]; done)), H', ⟨Nat.le_refl _⟩, ⟨by repeat (first | (with_reducible first | exact HB.out | apply below_alloc | apply pw_below_drewN | apply below_drew1) | exact HB.out)⟩⟩
  case round =>
    clear H'
    obtain ⟨x4_1, x5_1, rfl, rfl, HA, HK1, HB⟩ := hrel
    cases gk with
    | zero => exact absurd HA.out (by simp [trunnionref02_Log.l0])
    | succ k1 =>
      have H := HA.out
      clear HA
      simp only [trunnionref02_Log.l0] at H
      by_cases c2 : x5_1 < 255
      · rw [if_pos c2] at H
        have c2b0 : decide (x5_1 < 255) = true := decide_eq_true c2
        clear c2
        by_cases c3 : x4_1 = a0
        · rw [if_pos c3] at H
          have c3b0 : (x4_1 == a0) = true := beq_iff_eq.mpr c3
          have c3b1 : (x4_1 != a0) = false := bne_eq_false_iff_eq.mpr c3
          clear c3
          simp only [Option.some.injEq, Prod.mk.injEq] at H
          obtain ⟨rfl, rfl⟩ := H
          go_wp2
          go_ret2
          exact ⟨by first | rfl | (simp [errW_none, errW_some] <;> rfl) | (simp [*, errW_none, errW_some] <;> rfl), by repeat (first | (with_reducible first | exact HB.out | apply below_alloc | apply pw_below_drewN | apply below_drew1) | exact HB.out)⟩
        · rw [if_neg c3] at H
          have c3b0 : (x4_1 == a0) = false := beq_eq_false_iff_ne.mpr c3
          have c3b1 : (x4_1 != a0) = true := bne_iff_ne.mpr c3
          replace H := Option.bind_eq_some_iff.mp H
          obtain ⟨t102, A40, H⟩ := H
          replace H : (trunnionref02_Log.l0 k1 a0 t102 (wrap64 (x5_1 + 1))) = some (r1, r2) := H
          have A4 := Aside0.mk A40
          clear A40
          have H' := Aside0.mk H
          clear H
          go_wp2_with (first | ((with_reducible refine gate_callee (f := 23) rfl ?_); refine goesL_ (some 15) rfl rfl Try.func23 (by kernel_rfl) rfl #[.int .u8 x4_1, .int .u8 2] rfl (by (try simp only [List.map_toArray, List.map_cons, List.map_nil]); first | done | rfl | (simp only [List.length_drop, List.length_take]; rfl)) ?_; (with_reducible refine (trunnionref01_Mul.calls x4_1 2 t102 _ A4.out).mono ?_); rintro e w5 ⟨rfl, hb⟩; refine ⟨_, rfl, ?_⟩; have n0_ := Aside0.mk (below_step (by repeat (first | (with_reducible first | exact HB.out | apply below_alloc | apply pw_below_drewN | apply below_drew1) | exact HB.out)) hb); clear HB; have HB := n0_; clear n0_; (try clear hb); (try clear hb2); (try clear hk); (try clear hi)))
          go_roundg k1
          case measure => have := HK1.out; omega
          case rel => exact ⟨(t102), (wrap64 (x5_1 + 1)), (by first | rfl | (simp; done) | (simp [*]; done)), (by first | rfl | (simp; done) | (simp [*]; done)), H', ⟨by have := HK1.out; omega⟩, ⟨by repeat (first | (with_reducible first | exact HB.out | apply below_alloc | apply pw_below_drewN | apply below_drew1) | exact HB.out)⟩⟩
      · rw [if_neg c2] at H
        have c2b0 : decide (x5_1 < 255) = false := decide_eq_false c2
        clear c2
        simp only [Option.some.injEq, Prod.mk.injEq] at H
        obtain ⟨rfl, rfl⟩ := H
        go_wp2
        go_ret2
        exact ⟨by first | rfl | (simp [errW_none, errW_some] <;> rfl) | (simp [*, errW_none, errW_some] <;> rfl), by repeat (first | (with_reducible first | exact HB.out | apply below_alloc | apply pw_below_drewN | apply below_drew1) | exact HB.out)⟩

/-! ### trunnionref02_Exp: function 37 -/
mutual
def trunnionref02_Exp.j0 : Nat → Int → Option (Int)
  | 0, _ => none
  | k + 1, x3 => trunnionref02_Exp.l0 k x3 1 0
def trunnionref02_Exp.l0 : Nat → Int → Int → Int → Option (Int)
  | 0, _, _, _ => none
  | k + 1, x3, x4, x5 => if x5 < x3 then ((trunnionref01_Mul.f x4 2).bind fun t103 => (trunnionref02_Exp.l0 k x3 t103 (wrap64 (x5 + 1)))) else (some x4)
end
def trunnionref02_Exp.f (k : Nat) (a0 : Int) : Option (Int) := if (Int.tmod a0 255) < 0 then (trunnionref02_Exp.j0 k (wrap64 ((Int.tmod a0 255) + 255))) else (trunnionref02_Exp.j0 k (Int.tmod a0 255))
theorem trunnionref02_Exp.mono_l : ∀ k, (∀ y0, LeO (trunnionref02_Exp.j0 k y0) (trunnionref02_Exp.j0 (k + 1) y0)) ∧ (∀ y0 y1 y2, LeO (trunnionref02_Exp.l0 k y0 y1 y2) (trunnionref02_Exp.l0 (k + 1) y0 y1 y2))
  | 0 => ⟨fun _ r h => by simp [trunnionref02_Exp.j0] at h, fun _ _ _ r h => by simp [trunnionref02_Exp.l0] at h⟩
  | k + 1 => by
    obtain ⟨ih0, ih1⟩ := trunnionref02_Exp.mono_l k
    refine ⟨?_, ?_⟩
    · intro y0
      unfold trunnionref02_Exp.j0
      repeat' first
      | (with_reducible exact ih0 _)
      | (with_reducible exact ih1 _ _ _)
      | (with_reducible exact LeO.refl _)
      | (with_reducible exact LeO.none _)
      | (with_reducible refine LeO.ite ?_ ?_)
      | (with_reducible refine LeO.bind ?_ (fun _ => ?_))
      | exact ih0 _
      | exact ih1 _ _ _
      | exact LeO.none _
      | refine LeO.ite ?_ ?_
      | refine LeO.bind ?_ (fun _ => ?_)
    · intro y0 y1 y2
      unfold trunnionref02_Exp.l0
      repeat' first
      | (with_reducible exact ih0 _)
      | (with_reducible exact ih1 _ _ _)
      | (with_reducible exact LeO.refl _)
      | (with_reducible exact LeO.none _)
      | (with_reducible refine LeO.ite ?_ ?_)
      | (with_reducible refine LeO.bind ?_ (fun _ => ?_))
      | exact ih0 _
      | exact ih1 _ _ _
      | exact LeO.none _
      | refine LeO.ite ?_ ?_
      | refine LeO.bind ?_ (fun _ => ?_)
theorem trunnionref02_Exp.mono : ∀ a0 k, LeO (trunnionref02_Exp.f k a0) (trunnionref02_Exp.f (k + 1) a0) := by
  intro a0 k
  obtain ⟨ih0, ih1⟩ := trunnionref02_Exp.mono_l k
  unfold trunnionref02_Exp.f
  repeat' first
      | (with_reducible exact ih0 _)
      | (with_reducible exact ih1 _ _ _)
      | (with_reducible exact LeO.refl _)
      | (with_reducible exact LeO.none _)
      | (with_reducible refine LeO.ite ?_ ?_)
      | (with_reducible refine LeO.bind ?_ (fun _ => ?_))
      | exact ih0 _
      | exact ih1 _ _ _
      | exact LeO.none _
      | refine LeO.ite ?_ ?_
      | refine LeO.bind ?_ (fun _ => ?_)
set_option maxHeartbeats 8000000 in
set_option maxRecDepth 100000 in
theorem trunnionref02_Exp.calls (k : Nat) (a0 : Int) (r : Int) (w : World) (h : trunnionref02_Exp.f k a0 = some r) :
    Calls Try.prog 37 #[.int .i64 a0] w fun e w' => e = .returned (.int .u8 r) ∧ Below w.heap.size w w' := by
  have HB := Aside0.mk (Below.refl w.heap.size w)
  have H : (if (Int.tmod a0 255) < 0 then (trunnionref02_Exp.j0 k (wrap64 ((Int.tmod a0 255) + 255))) else (trunnionref02_Exp.j0 k (Int.tmod a0 255))) = some r := h
  clear h
  have HC2 := Aside0.mk H
  clear H
  go_enter Try.func37, Try.ntmps37
  go_upto_if 9 with (fail)
  go_cut [3] (fun v3 wc => ∃ (kq : Nat) (x3_1 : Int), v3 = .int .i64 x3_1 ∧ Aside0 (trunnionref02_Exp.j0 kq x3_1 = some r) ∧ Aside0 (kq ≤ k) ∧ Aside0 (Below w.heap.size w wc))
  case first =>
    have H := HC2.out
    clear HC2
    by_cases c3 : (Int.tmod a0 255) < 0
    · rw [if_pos c3] at H
      have c3b0 : decide ((Int.tmod a0 255) < 0) = true := decide_eq_true c3
      clear c3
      (first | rw [c3b0] | (simp only [i64_w, i32_w]; rw [c3b0]) | skip)
      have H' := Aside0.mk H
      clear H
      go_wp2
      go_meet
      case rel => exact ⟨_, (wrap64 ((Int.tmod a0 255) + 255)), (by first | rfl | (simp; done) | (simp [*]; done)), H', ⟨by first | omega | exact Nat.le_refl _⟩, ⟨by repeat (first | (with_reducible first | exact HB.out | apply below_alloc | apply pw_below_drewN | apply below_drew1) | exact HB.out)⟩⟩
    · rw [if_neg c3] at H
      have c3b0 : decide ((Int.tmod a0 255) < 0) = false := decide_eq_false c3
      clear c3
      (first | rw [c3b0] | (simp only [i64_w, i32_w]; rw [c3b0]) | skip)
      have H' := Aside0.mk H
      clear H
      go_wp2
      go_meet
      case rel => exact ⟨_, (Int.tmod a0 255), (by first | rfl | (simp; done) | (simp [*]; done)), H', ⟨by first | omega | exact Nat.le_refl _⟩, ⟨by repeat (first | (with_reducible first | exact HB.out | apply below_alloc | apply pw_below_drewN | apply below_drew1) | exact HB.out)⟩⟩
  case rest =>
    clear HC2
    try clear p2
    try clear c3
    try clear c3b0
    obtain ⟨kq, x3_1, rfl, HA, HJ1, HB⟩ := hcut
    cases kq with
    | zero => exact absurd HA.out (by simp [trunnionref02_Exp.j0])
    | succ kj1 =>
      have H := HA.out
      clear HA
      simp only [trunnionref02_Exp.j0] at H
      have H' := Aside0.mk H
      clear H
      go_wp2
      go_loopg [4, 5] kj1 (fun kq v4 v5 w' => ∃ (x4_2 : Int) (x5_2 : Int), v4 = .int .u8 x4_2 ∧ v5 = .int .i64 x5_2 ∧ Aside0 (trunnionref02_Exp.l0 kq x3_1 x4_2 x5_2 = some r) ∧ Aside0 (kq ≤ kj1) ∧ Aside0 (Below w.heap.size w w'))
      case atStart => exact ⟨(1), (0), (by first | rfl | (simp; done) | (simp [*]; done)), (by first | rfl | (simp; done) | (simp [*]; done)), H', ⟨Nat.le_refl _⟩, ⟨by repeat (first | (with_reducible first | exact HB.out | apply below_alloc | apply pw_below_drewN | apply below_drew1) | exact HB.out)⟩⟩
      case round =>
        clear H'
        try clear p2
        try clear c3
        try clear c3b0
        try clear p2
        obtain ⟨x4_2, x5_2, rfl, rfl, HA, HK2, HB⟩ := hrel
        cases gk with
        | zero => exact absurd HA.out (by simp [trunnionref02_Exp.l0])
        | succ k2 =>
          have H := HA.out
          clear HA
          simp only [trunnionref02_Exp.l0] at H
          by_cases c4 : x5_2 < x3_1
          · rw [if_pos c4] at H
            have c4b0 : decide (x5_2 < x3_1) = true := decide_eq_true c4
            clear c4
            replace H := Option.bind_eq_some_iff.mp H
            obtain ⟨t103, A50, H⟩ := H
            replace H : (trunnionref02_Exp.l0 k2 x3_1 t103 (wrap64 (x5_2 + 1))) = some r := H
            have A5 := Aside0.mk A50
            clear A50
            have H' := Aside0.mk H
            clear H
            go_wp2_with (first | ((with_reducible refine gate_callee (f := 23) rfl ?_); refine goesL_ (some 18) rfl rfl Try.func23 (by kernel_rfl) rfl #[.int .u8 x4_2, .int .u8 2] rfl (by (try simp only [List.map_toArray, List.map_cons, List.map_nil]); first | done | rfl | (simp only [List.length_drop, List.length_take]; rfl)) ?_; (with_reducible refine (trunnionref01_Mul.calls x4_2 2 t103 _ A5.out).mono ?_); rintro e w6 ⟨rfl, hb⟩; refine ⟨_, rfl, ?_⟩; have n0_ := Aside0.mk (below_step (by repeat (first | (with_reducible first | exact HB.out | apply below_alloc | apply pw_below_drewN | apply below_drew1) | exact HB.out)) hb); clear HB; have HB := n0_; clear n0_; (try clear hb); (try clear hb2); (try clear hk); (try clear hi)))
            go_roundg k2
            case measure => have := HJ1.out; have := HK2.out; omega
            case rel => exact ⟨(t103), (wrap64 (x5_2 + 1)), (by first | rfl | (simp; done) | (simp [*]; done)), (by first | rfl | (simp; done) | (simp [*]; done)), H', ⟨by have := HJ1.out; have := HK2.out; omega⟩, ⟨by repeat (first | (with_reducible first | exact HB.out | apply below_alloc | apply pw_below_drewN | apply below_drew1) | exact HB.out)⟩⟩
          · rw [if_neg c4] at H
            have c4b0 : decide (x5_2 < x3_1) = false := decide_eq_false c4
            clear c4
            obtain rfl := Option.some.inj H
            go_wp2
            go_ret
            exact ⟨by first | rfl | (simp [errW_none, errW_some] <;> rfl) | (simp [*, errW_none, errW_some] <;> rfl), by repeat (first | (with_reducible first | exact HB.out | apply below_alloc | apply pw_below_drewN | apply below_drew1) | exact HB.out)⟩

end Go.Proofs.Ytanaaleojpbfbaa.PGfR
