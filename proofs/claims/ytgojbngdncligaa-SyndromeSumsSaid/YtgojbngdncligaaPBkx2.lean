-- written by a program of this session (pr.py) for this claim
import Derived.Test.YtgojbngdncligaaPBkx0
import Derived.Test.YtgojbngdncligaaPBkx1
namespace Go.Proofs.Ytgojbngdncligaa.PBk
open Go.RowKit Go.Proofs.YtgojbngdncligaaW.PrintWords Go.Proofs.YtgojbngdncligaaW.PrintLast Go.Proofs.YtgojbngdncligaaW.PrintMore
attribute [local go_sem] max2_int min2_int max_two min_two max_three min_three max_four min_four   -- for this text's walks alone
set_option linter.unusedVariables false
set_option linter.unusedSimpArgs false

/-! ### trunnionref04_Power: function 30 -/
mutual
def trunnionref04_Power.j0 : Nat → Int → Bool → Option (Int)
  | 0, _, _ => none
  | k + 1, x0, x10 => if x10 = true then (some 0) else (trunnionref04_Power.l0 k x0 1 0)
def trunnionref04_Power.l0 : Nat → Int → Int → Int → Option (Int)
  | 0, _, _, _ => none
  | k + 1, x0, x3, x4 => if x4 < x0 then ((trunnionref01_Mul.f x3 2).bind fun t132 => (trunnionref04_Power.l0 k x0 t132 (wrap64 (x4 + 1)))) else (some x3)
end
def trunnionref04_Power.f (k : Nat) (a0 : Int) : Option (Int) := if a0 < 0 then (trunnionref04_Power.j0 k a0 true) else (trunnionref04_Power.j0 k a0 (decide (a0 ≥ 30)))
theorem trunnionref04_Power.mono_l : ∀ k, (∀ y0 y1, LeO (trunnionref04_Power.j0 k y0 y1) (trunnionref04_Power.j0 (k + 1) y0 y1)) ∧ (∀ y0 y1 y2, LeO (trunnionref04_Power.l0 k y0 y1 y2) (trunnionref04_Power.l0 (k + 1) y0 y1 y2))
  | 0 => ⟨fun _ _ r h => by simp [trunnionref04_Power.j0] at h, fun _ _ _ r h => by simp [trunnionref04_Power.l0] at h⟩
  | k + 1 => by
    obtain ⟨ih0, ih1⟩ := trunnionref04_Power.mono_l k
    refine ⟨?_, ?_⟩
    · intro y0 y1
      unfold trunnionref04_Power.j0
      repeat' first
      | (with_reducible exact ih0 _ _)
      | (with_reducible exact ih1 _ _ _)
      | (with_reducible exact LeO.refl _)
      | (with_reducible exact LeO.none _)
      | (with_reducible refine LeO.ite ?_ ?_)
      | (with_reducible refine LeO.bind ?_ (fun _ => ?_))
      | exact ih0 _ _
      | exact ih1 _ _ _
      | exact LeO.none _
      | refine LeO.ite ?_ ?_
      | refine LeO.bind ?_ (fun _ => ?_)
    · intro y0 y1 y2
      unfold trunnionref04_Power.l0
      repeat' first
      | (with_reducible exact ih0 _ _)
      | (with_reducible exact ih1 _ _ _)
      | (with_reducible exact LeO.refl _)
      | (with_reducible exact LeO.none _)
      | (with_reducible refine LeO.ite ?_ ?_)
      | (with_reducible refine LeO.bind ?_ (fun _ => ?_))
      | exact ih0 _ _
      | exact ih1 _ _ _
      | exact LeO.none _
      | refine LeO.ite ?_ ?_
      | refine LeO.bind ?_ (fun _ => ?_)
theorem trunnionref04_Power.mono : ∀ a0 k, LeO (trunnionref04_Power.f k a0) (trunnionref04_Power.f (k + 1) a0) := by
  intro a0 k
  obtain ⟨ih0, ih1⟩ := trunnionref04_Power.mono_l k
  unfold trunnionref04_Power.f
  repeat' first
      | (with_reducible exact ih0 _ _)
      | (with_reducible exact ih1 _ _ _)
      | (with_reducible exact LeO.refl _)
      | (with_reducible exact LeO.none _)
      | (with_reducible refine LeO.ite ?_ ?_)
      | (with_reducible refine LeO.bind ?_ (fun _ => ?_))
      | exact ih0 _ _
      | exact ih1 _ _ _
      | exact LeO.none _
      | refine LeO.ite ?_ ?_
      | refine LeO.bind ?_ (fun _ => ?_)
set_option maxHeartbeats 8000000 in
set_option maxRecDepth 100000 in
theorem trunnionref04_Power.calls (k : Nat) (a0 : Int) (r : Int) (w : World) (h : trunnionref04_Power.f k a0 = some r) :
    Calls Try.prog 30 #[.int .i64 a0] w fun e w' => e = .returned (.int .u8 r) ∧ Below w.heap.size w w' := by
  have HB := Aside0.mk (Below.refl w.heap.size w)
  have H : (if a0 < 0 then (trunnionref04_Power.j0 k a0 true) else (trunnionref04_Power.j0 k a0 (decide (a0 ≥ 30)))) = some r := h
  clear h
  have HC2 := Aside0.mk H
  clear H
  go_enter Try.func30, Try.ntmps30
  go_upto_region 1 with (fail)
  go_cut [10] (fun v10 wc => ∃ (kq : Nat) (x10_1 : Bool), v10 = .bool x10_1 ∧ Aside0 (trunnionref04_Power.j0 kq a0 x10_1 = some r) ∧ Aside0 (kq ≤ k) ∧ Aside0 (Below w.heap.size w wc))
  case first =>
    have H := HC2.out
    clear HC2
    by_cases c3 : a0 < 0
    · rw [if_pos c3] at H
      have c3b0 : decide (a0 < 0) = true := decide_eq_true c3
      clear c3
      (first | rw [c3b0] | (simp only [i64_w, i32_w]; rw [c3b0]) | skip)
      have H' := Aside0.mk H
      clear H
      go_wp2
      go_meet
      case rel => exact ⟨_, (true), (by first | rfl | (simp; done) | (simp [*]; done)), H', ⟨by first | omega | exact Nat.le_refl _⟩, ⟨by repeat (first | (with_reducible first | exact HB.out | apply below_alloc | apply pw_below_drewN | apply below_drew1) | exact HB.out)⟩⟩
    · rw [if_neg c3] at H
      have c3b0 : decide (a0 < 0) = false := decide_eq_false c3
      clear c3
      (first | rw [c3b0] | (simp only [i64_w, i32_w]; rw [c3b0]) | skip)
      have H' := Aside0.mk H
      clear H
      go_wp2
      go_meet
      case rel => exact ⟨_, (decide (a0 ≥ 30)), (by first | rfl | (simp; done) | (simp [*]; done)), H', ⟨by first | omega | exact Nat.le_refl _⟩, ⟨by repeat (first | (with_reducible first | exact HB.out | apply below_alloc | apply pw_below_drewN | apply below_drew1) | exact HB.out)⟩⟩
  case rest =>
    clear HC2
    try clear p2
    try clear c3
    try clear c3b0
    obtain ⟨kq, x10_1, rfl, HA, HJ1, HB⟩ := hcut
    cases kq with
    | zero => exact absurd HA.out (by simp [trunnionref04_Power.j0])
    | succ kj1 =>
      have H := HA.out
      clear HA
      simp only [trunnionref04_Power.j0] at H
      by_cases c4 : x10_1 = true
      · subst c4
        have H1 : (some 0) = some r := by rw [if_pos rfl] at H; exact H
        clear H
        have H := H1
        clear H1
        obtain rfl := Option.some.inj H
        go_wp2
        go_ret
        exact ⟨by first | rfl | (simp [errW_none, errW_some] <;> rfl) | (simp [*, errW_none, errW_some] <;> rfl), by repeat (first | (with_reducible first | exact HB.out | apply below_alloc | apply pw_below_drewN | apply below_drew1) | exact HB.out)⟩
      · replace c4 := Bool.eq_false_iff.mpr c4
        subst c4
        have H1 : (trunnionref04_Power.l0 kj1 a0 1 0) = some r := by rw [if_neg (show ¬ (false = true) by decide)] at H; exact H
        clear H
        have H := H1
        clear H1
        have H' := Aside0.mk H
        clear H
        go_wp2
        go_loopg [3, 4] kj1 (fun kq v3 v4 w' => ∃ (x3_2 : Int) (x4_2 : Int), v3 = .int .u8 x3_2 ∧ v4 = .int .i64 x4_2 ∧ Aside0 (trunnionref04_Power.l0 kq a0 x3_2 x4_2 = some r) ∧ Aside0 (kq ≤ kj1) ∧ Aside0 (Below w.heap.size w w'))
        case atStart => exact ⟨(1), (0), (by first | rfl | (simp; done) | (simp [*]; done)), (by first | rfl | (simp; done) | (simp [*]; done)), H', ⟨Nat.le_refl _⟩, ⟨by repeat (first | (with_reducible first | exact HB.out | apply below_alloc | apply pw_below_drewN | apply below_drew1) | exact HB.out)⟩⟩
        case round =>
          clear H'
          try clear p2
          try clear c3
          try clear c3b0
          try clear c4
          try clear p2
          obtain ⟨x3_2, x4_2, rfl, rfl, HA, HK2, HB⟩ := hrel
          cases gk with
          | zero => exact absurd HA.out (by simp [trunnionref04_Power.l0])
          | succ k2 =>
            have H := HA.out
            clear HA
            simp only [trunnionref04_Power.l0] at H
            by_cases c5 : x4_2 < a0
            · rw [if_pos c5] at H
              have c5b0 : decide (x4_2 < a0) = true := decide_eq_true c5
              clear c5
              replace H := Option.bind_eq_some_iff.mp H
              obtain ⟨t132, A60, H⟩ := H
              replace H : (trunnionref04_Power.l0 k2 a0 t132 (wrap64 (x4_2 + 1))) = some r := H
              have A6 := Aside0.mk A60
              clear A60
              have H' := Aside0.mk H
              clear H
              go_wp2_with (first | ((with_reducible refine gate_callee (f := 42) rfl ?_); refine goesL_ (some 17) rfl rfl Try.func42 (by kernel_rfl) rfl #[.int .u8 x3_2, .int .u8 2] rfl (by (try simp only [List.map_toArray, List.map_cons, List.map_nil]); first | done | rfl | (simp only [List.length_drop, List.length_take]; rfl)) ?_; (with_reducible refine (trunnionref01_Mul.calls x3_2 2 t132 _ A6.out).mono ?_); rintro e w7 ⟨rfl, hb⟩; refine ⟨_, rfl, ?_⟩; have n0_ := Aside0.mk (below_step (by repeat (first | (with_reducible first | exact HB.out | apply below_alloc | apply pw_below_drewN | apply below_drew1) | exact HB.out)) hb); clear HB; have HB := n0_; clear n0_; (try clear hb); (try clear hb2); (try clear hk); (try clear hi)))
              go_roundg k2
              case measure => have := HJ1.out; have := HK2.out; omega
              case rel => exact ⟨(t132), (wrap64 (x4_2 + 1)), (by first | rfl | (simp; done) | (simp [*]; done)), (by first | rfl | (simp; done) | (simp [*]; done)), H', ⟨by have := HJ1.out; have := HK2.out; omega⟩, ⟨by repeat (first | (with_reducible first | exact HB.out | apply below_alloc | apply pw_below_drewN | apply below_drew1) | exact HB.out)⟩⟩
            · rw [if_neg c5] at H
              have c5b0 : decide (x4_2 < a0) = false := decide_eq_false c5
              clear c5
              obtain rfl := Option.some.inj H
              go_wp2
              go_ret
              exact ⟨by first | rfl | (simp [errW_none, errW_some] <;> rfl) | (simp [*, errW_none, errW_some] <;> rfl), by repeat (first | (with_reducible first | exact HB.out | apply below_alloc | apply pw_below_drewN | apply below_drew1) | exact HB.out)⟩

/-! ### trunnionref04_Make: function 27 -/
mutual
def trunnionref04_Make.j0 : Nat → List ByteArray → Bool → Option (ByteArray × ByteArray × Int)
  | 0, _, _ => none
  | k + 1, x0, x21 => if x21 = true then (some ((⟨#[]⟩ : ByteArray), (⟨#[]⟩ : ByteArray), 3)) else ((trunnionref03_Fit.f k x0).bind fun t133 => (if t133 = 0 then (if 0 < (x0.length : Int) then (if 0 ≤ ((rdOf ByteArray.empty x0 0).size : Int) then (if (((rdOf ByteArray.empty x0 0).size : Int) : Int).toNat ≤ 281474976710656 then ((some (List.replicate (((rdOf ByteArray.empty x0 0).size : Int) : Int).toNat 0 : List Int)).bind fun y135 => (trunnionref04_Make.l0 k x0 (strOfNums y135) (strOfNums y135) 0)) else (none)) else (none)) else (none)) else (some ((⟨#[]⟩ : ByteArray), (⟨#[]⟩ : ByteArray), t133))))
def trunnionref04_Make.l0 : Nat → List ByteArray → ByteArray → ByteArray → Int → Option (ByteArray × ByteArray × Int)
  | 0, _, _, _, _ => none
  | k + 1, x0, x6, x7, x8 => if x8 < (x0.length : Int) then ((trunnionref04_Power.f k x8).bind fun t138 => (if 0 ≤ x8 then ((trunnionref03_Fold.f k x6 1 (rdOf ByteArray.empty x0 x8)).bind fun bt140 => ((trunnionref03_Fold.f k x7 t138 (rdOf ByteArray.empty x0 x8)).bind fun bt143 => (trunnionref04_Make.l0 k x0 bt140.1 bt143.1 (wrap64 (x8 + 1))))) else (none))) else (some (x6, x7, 0))
end
def trunnionref04_Make.f (k : Nat) (l0 : List ByteArray) : Option (ByteArray × ByteArray × Int) := if (l0.length : Int) < 2 then (trunnionref04_Make.j0 k l0 true) else (trunnionref04_Make.j0 k l0 (decide ((l0.length : Int) > 30)))
theorem trunnionref04_Make.mono_l : ∀ k, (∀ y0 y1, LeO (trunnionref04_Make.j0 k y0 y1) (trunnionref04_Make.j0 (k + 1) y0 y1)) ∧ (∀ y0 y1 y2 y3, LeO (trunnionref04_Make.l0 k y0 y1 y2 y3) (trunnionref04_Make.l0 (k + 1) y0 y1 y2 y3))
  | 0 => ⟨fun _ _ r h => by simp [trunnionref04_Make.j0] at h, fun _ _ _ _ r h => by simp [trunnionref04_Make.l0] at h⟩
  | k + 1 => by
    obtain ⟨ih0, ih1⟩ := trunnionref04_Make.mono_l k
    refine ⟨?_, ?_⟩
    · intro y0 y1
      unfold trunnionref04_Make.j0
      repeat' first
      | (with_reducible exact ih0 _ _)
      | (with_reducible exact ih1 _ _ _ _)
      | (with_reducible exact trunnionref03_Fit.mono _ _)
      | (with_reducible exact trunnionref03_Fold.mono _ _ _ _)
      | (with_reducible exact trunnionref04_Power.mono _ _)
      | (with_reducible exact LeO.refl _)
      | (with_reducible exact LeO.none _)
      | (with_reducible refine LeO.ite ?_ ?_)
      | (with_reducible refine LeO.bind ?_ (fun _ => ?_))
      | exact ih0 _ _
      | exact ih1 _ _ _ _
      | exact trunnionref03_Fit.mono _ _
      | exact trunnionref03_Fold.mono _ _ _ _
      | exact trunnionref04_Power.mono _ _
      | exact LeO.none _
      | refine LeO.ite ?_ ?_
      | refine LeO.bind ?_ (fun _ => ?_)
    · intro y0 y1 y2 y3
      unfold trunnionref04_Make.l0
      repeat' first
      | (with_reducible exact ih0 _ _)
      | (with_reducible exact ih1 _ _ _ _)
      | (with_reducible exact trunnionref03_Fit.mono _ _)
      | (with_reducible exact trunnionref03_Fold.mono _ _ _ _)
      | (with_reducible exact trunnionref04_Power.mono _ _)
      | (with_reducible exact LeO.refl _)
      | (with_reducible exact LeO.none _)
      | (with_reducible refine LeO.ite ?_ ?_)
      | (with_reducible refine LeO.bind ?_ (fun _ => ?_))
      | exact ih0 _ _
      | exact ih1 _ _ _ _
      | exact trunnionref03_Fit.mono _ _
      | exact trunnionref03_Fold.mono _ _ _ _
      | exact trunnionref04_Power.mono _ _
      | exact LeO.none _
      | refine LeO.ite ?_ ?_
      | refine LeO.bind ?_ (fun _ => ?_)
theorem trunnionref04_Make.mono : ∀ a0 k, LeO (trunnionref04_Make.f k a0) (trunnionref04_Make.f (k + 1) a0) := by
  intro a0 k
  obtain ⟨ih0, ih1⟩ := trunnionref04_Make.mono_l k
  unfold trunnionref04_Make.f
  repeat' first
      | (with_reducible exact ih0 _ _)
      | (with_reducible exact ih1 _ _ _ _)
      | (with_reducible exact trunnionref03_Fit.mono _ _)
      | (with_reducible exact trunnionref03_Fold.mono _ _ _ _)
      | (with_reducible exact trunnionref04_Power.mono _ _)
      | (with_reducible exact LeO.refl _)
      | (with_reducible exact LeO.none _)
      | (with_reducible refine LeO.ite ?_ ?_)
      | (with_reducible refine LeO.bind ?_ (fun _ => ?_))
      | exact ih0 _ _
      | exact ih1 _ _ _ _
      | exact trunnionref03_Fit.mono _ _
      | exact trunnionref03_Fold.mono _ _ _ _
      | exact trunnionref04_Power.mono _ _
      | exact LeO.none _
      | refine LeO.ite ?_ ?_
      | refine LeO.bind ?_ (fun _ => ?_)
set_option maxHeartbeats 8000000 in
set_option maxRecDepth 100000 in
theorem trunnionref04_Make.calls (k : Nat) (A0 : Option Addr) (c0 : Nat) (l0 : List ByteArray) (r1 : ByteArray) (r2 : ByteArray) (r3 : Int) (w : World) (hr0 : Kd.C Kd.string w A0 l0.length l0) (hc0 : l0.length ≤ c0) (h : trunnionref04_Make.f k l0 = some (r1, r2, r3)) :
    Calls Try.prog 27 #[.slice A0 l0.length c0] w fun e w' => e = .returned (.tuple #[.string r1, .string r2, .int .i64 r3]) ∧ Below w.heap.size w w' := by
  have HR0 := Aside0.mk hr0
  have HC0 := Aside0.mk hc0
  clear hr0 hc0
  have HB := Aside0.mk (Below.refl w.heap.size w)
  have H : (if (l0.length : Int) < 2 then (trunnionref04_Make.j0 k l0 true) else (trunnionref04_Make.j0 k l0 (decide ((l0.length : Int) > 30)))) = some (r1, r2, r3) := h
  clear h
  have HC2 := Aside0.mk H
  clear H
  go_enter Try.func27, Try.ntmps27
  go_upto_region 1 with (fail)
  go_cut [21] (fun v21 wc => ∃ (kq : Nat) (x21_1 : Bool), v21 = .bool x21_1 ∧ Aside0 (trunnionref04_Make.j0 kq l0 x21_1 = some (r1, r2, r3)) ∧ Aside0 (kq ≤ k) ∧ Aside0 (Below w.heap.size w wc))
  case first =>
    have H := HC2.out
    clear HC2
    by_cases c3 : (l0.length : Int) < 2
    · rw [if_pos c3] at H
      have c3b0 : decide ((l0.length : Int) < 2) = true := decide_eq_true c3
      have c3b1 : decide (l0.length < 2) = true := decide_eq_true (by omega)
      clear c3
      (first | rw [c3b0] | (simp only [i64_w, i32_w]; rw [c3b0]) | skip)
      have H' := Aside0.mk H
      clear H
      go_wp2
      go_meet
      case rel => exact ⟨_, (true), (by first | rfl | (simp; done) | (simp [*]; done)), H', ⟨by first | omega | exact Nat.le_refl _⟩, ⟨by repeat (first | (with_reducible first | exact HB.out | apply below_alloc | apply pw_below_drewN | apply below_drew1) | exact HB.out)⟩⟩
    · rw [if_neg c3] at H
      have c3b0 : decide ((l0.length : Int) < 2) = false := decide_eq_false c3
      have c3b1 : decide (l0.length < 2) = false := decide_eq_false (by omega)
      clear c3
      (first | rw [c3b0] | (simp only [i64_w, i32_w]; rw [c3b0]) | skip)
      have H' := Aside0.mk H
      clear H
      go_wp2
      go_meet
      case rel => exact ⟨_, (decide ((l0.length : Int) > 30)), (by first | rfl | (simp; done) | (simp [*]; done)), H', ⟨by first | omega | exact Nat.le_refl _⟩, ⟨by repeat (first | (with_reducible first | exact HB.out | apply below_alloc | apply pw_below_drewN | apply below_drew1) | exact HB.out)⟩⟩
  case rest =>
    clear HC2
    try clear c2
    try clear p2
    try clear c3
    try clear c3b0
    try clear c3b1
    obtain ⟨kq, x21_1, rfl, HA, HJ1, HB⟩ := hcut
    cases kq with
    | zero => exact absurd HA.out (by simp [trunnionref04_Make.j0])
    | succ kj1 =>
      have H := HA.out
      clear HA
      simp only [trunnionref04_Make.j0] at H
      by_cases c4 : x21_1 = true
      · subst c4
        have H1 : (some ((⟨#[]⟩ : ByteArray), (⟨#[]⟩ : ByteArray), 3)) = some (r1, r2, r3) := by rw [if_pos rfl] at H; exact H
        clear H
        have H := H1
        clear H1
        simp only [Option.some.injEq, Prod.mk.injEq] at H
        obtain ⟨rfl, rfl, rfl⟩ := H
        go_wp2
        go_ret3
        exact ⟨by first | rfl | (simp [errW_none, errW_some] <;> rfl) | (simp [*, errW_none, errW_some] <;> rfl), by repeat (first | (with_reducible first | exact HB.out | apply below_alloc | apply pw_below_drewN | apply below_drew1) | exact HB.out)⟩
      · replace c4 := Bool.eq_false_iff.mpr c4
        subst c4
        have H1 : ((trunnionref03_Fit.f kj1 l0).bind fun t133 => (if t133 = 0 then (if 0 < (l0.length : Int) then (if 0 ≤ ((rdOf ByteArray.empty l0 0).size : Int) then (if (((rdOf ByteArray.empty l0 0).size : Int) : Int).toNat ≤ 281474976710656 then ((some (List.replicate (((rdOf ByteArray.empty l0 0).size : Int) : Int).toNat 0 : List Int)).bind fun y135 => (trunnionref04_Make.l0 kj1 l0 (strOfNums y135) (strOfNums y135) 0)) else (none)) else (none)) else (none)) else (some ((⟨#[]⟩ : ByteArray), (⟨#[]⟩ : ByteArray), t133)))) = some (r1, r2, r3) := by rw [if_neg (show ¬ (false = true) by decide)] at H; exact H
        clear H
        have H := H1
        clear H1
        replace H := Option.bind_eq_some_iff.mp H
        obtain ⟨t133, A50, H⟩ := H
        replace H : (if t133 = 0 then (if 0 < (l0.length : Int) then (if 0 ≤ ((rdOf ByteArray.empty l0 0).size : Int) then (if (((rdOf ByteArray.empty l0 0).size : Int) : Int).toNat ≤ 281474976710656 then ((some (List.replicate (((rdOf ByteArray.empty l0 0).size : Int) : Int).toNat 0 : List Int)).bind fun y135 => (trunnionref04_Make.l0 kj1 l0 (strOfNums y135) (strOfNums y135) 0)) else (none)) else (none)) else (none)) else (some ((⟨#[]⟩ : ByteArray), (⟨#[]⟩ : ByteArray), t133))) = some (r1, r2, r3) := H
        have A5 := Aside0.mk A50
        clear A50
        by_cases c6 : t133 = 0
        · rw [if_pos c6] at H
          have c6b0 : (t133 == 0) = true := beq_iff_eq.mpr c6
          have c6b1 : (t133 != 0) = false := bne_eq_false_iff_eq.mpr c6
          clear c6
          by_cases c7 : 0 < (l0.length : Int)
          · rw [if_pos c7] at H
            have c7b0 : decide (0 < (l0.length : Int)) = true := decide_eq_true c7
            have c7b1 : decide (0 < l0.length) = true := decide_eq_true (by omega)
            clear c7
            by_cases c8 : 0 ≤ ((rdOf ByteArray.empty l0 0).size : Int)
            · rw [if_pos c8] at H
              have c8b0 := eq_true c8
              have c8b1 : decide (0 ≤ ((rdOf ByteArray.empty l0 0).size : Int)) = true := decide_eq_true c8
              clear c8
              by_cases c9 : (((rdOf ByteArray.empty l0 0).size : Int) : Int).toNat ≤ 281474976710656
              · rw [if_pos c9] at H
                have c9b0 := eq_true c9
                have c9b1 : decide ((((rdOf ByteArray.empty l0 0).size : Int) : Int).toNat ≤ 281474976710656) = true := decide_eq_true c9
                clear c9
                obtain ⟨y135, hy135⟩ : ∃ y_ : List Int, y_ = (List.replicate (((rdOf ByteArray.empty l0 0).size : Int) : Int).toNat 0) := ⟨_, rfl⟩
                replace H : (trunnionref04_Make.l0 kj1 l0 (strOfNums y135) (strOfNums y135) 0) = some (r1, r2, r3) := by first | (rw [hy135]; with_reducible exact H) | (have H2_ := (Option.bind_some _ _).symm.trans H; rw [hy135]; with_reducible exact H2_) | (have H2_ := (Option.bind_some _ _).symm.trans H; with_reducible exact H2_) | with_reducible exact H | (rw [hy135]; exact H) | exact H
                have Ny135 := Aside0.mk hy135
                clear hy135
                have H' := Aside0.mk H
                clear H
                go_wp2_with (first | ((with_reducible refine gate_callee (f := 38) rfl ?_); refine goesL_ (some 23) rfl rfl Try.func38 (by kernel_rfl) rfl #[.slice A0 l0.length c0] rfl (by (try simp only [List.map_toArray, List.map_cons, List.map_nil]); first | done | rfl | (simp only [List.length_drop, List.length_take]; rfl)) ?_; (with_reducible refine (trunnionref03_Fit.calls kj1 _ _ l0 t133 _ ?side1 ?side2 A5.out).mono ?_); (case side1 => repeat (first | exact (Kd.C_below HR0.out HB.out) | (with_reducible refine Kd.C_alloc ?_ _) | (with_reducible refine Kd.C_drewN ?_ _) | (with_reducible refine Kd.C_drew ?_))); (case side2 => exact HC0.out); rintro e w' ⟨rfl, ⟨nd, rfl⟩⟩; refine ⟨_, rfl, ?_⟩; have p134 : 0 ≤ (0 : Int) := (by omega); have q134 : 0 < (l0.length : Int) := of_decide_eq_true (by first | (with_reducible assumption) | assumption); obtain ⟨ad134, e134, hx134_0⟩ := Kd.at_string HR0.out 0 p134 q134; cases e134; have qi134 : (0 < l0.length) = True := eq_true (by omega); (try rw [show ((0 : Int)).toNat = 0 from rfl] at hx134_0); (try rw [Addr.add_zero'] at hx134_0); replace hx134_0 := (HB.out.cell (World.block_lt_of_cell? w _ hx134_0)).trans hx134_0; replace p134 := eq_true p134; replace q134 := eq_true q134) | ((with_reducible refine gate_dst (N := 31) rfl ?_); (try (refine gate_guard (by rfl) ?_; dsimp only)); refine Kd.R_make (Kd.int .u8) _ 5 rfl (N := 31) rfl 41 _ _ rfl ((rdOf ByteArray.empty l0 0).size : Int) rfl rfl Try.underlying41 (.int .u8 0) 1 info5 rfl (by decide) (by omega) 0 (ok := fun _ => True) (okp := fun _ => True) rfl (fun _ hk => hk) trivial (of_decide_eq_true (by first | (with_reducible assumption) | assumption)) (Nat.le_trans (Nat.mul_le_mul_right _ (of_decide_eq_true (by first | (with_reducible assumption) | assumption) : ((rdOf ByteArray.empty l0 0).size : Int).toNat ≤ 281474976710656)) (by omega)) (Below.refl _ _) (Nat.le_refl _) ?_; intro v136 w10 ho11 hb hg_ hnew_; clear hg_ hnew_; (first | rw [← Ny135.out] at ho11 | (simp only [Int.reduceToNat] at ho11; rw [← Ny135.out] at ho11)); have n0_ := Aside0.mk (Kd.R_lower ho11 (below_size (by repeat (first | (with_reducible first | exact HB.out | apply below_alloc | apply pw_below_drewN | apply below_drew1) | exact HB.out)))); have n1_ := Aside0.mk (below_step (by repeat (first | (with_reducible first | exact HB.out | apply below_alloc | apply pw_below_drewN | apply below_drew1) | exact HB.out)) hb); clear HB; have HO137 := n0_; have HB := n1_; clear n0_ n1_; clear hb ho11; have hcv12 := own_string (P := Try.prog) Try.underlying41 Try.underlying5 Try.underlying9 (Kd.own_of_R HO137.out)))
                go_loopg [6, 7, 8] kj1 (fun kq v6 v7 v8 w' => ∃ (x6_2 : ByteArray) (x7_2 : ByteArray) (x8_2 : Int), v6 = .string x6_2 ∧ v7 = .string x7_2 ∧ v8 = .int .i64 x8_2 ∧ Aside0 (trunnionref04_Make.l0 kq l0 x6_2 x7_2 x8_2 = some (r1, r2, r3)) ∧ Aside0 (kq ≤ kj1) ∧ Aside0 (Below w.heap.size w w'))
                case atStart => exact ⟨(strOfNums y135), (strOfNums y135), (0), (by first | rfl | (simp; done) | (simp [*]; done)), (by first | rfl | (simp; done) | (simp [*]; done)), (by first | rfl | (simp; done) | (simp [*]; done)), H', ⟨Nat.le_refl _⟩, ⟨by repeat (first | (with_reducible first | exact HB.out | apply below_alloc | apply pw_below_drewN | apply below_drew1) | exact HB.out)⟩⟩
                case round =>
                  clear H'
                  try clear p1
                  try clear q1
                  try clear hx1
                  try clear hcv1
                  try clear qi1
                  try clear c2
                  try clear p2
                  try clear c3
                  try clear c3b0
                  try clear c3b1
                  try clear c4
                  try clear c6
                  try clear c6b0
                  try clear c6b1
                  try clear c7
                  try clear c7b0
                  try clear c7b1
                  try clear c8
                  try clear c8b0
                  try clear c8b1
                  try clear c9
                  try clear c9b0
                  try clear c9b1
                  try clear hcv12
                  try clear hx134_0
                  try clear p134
                  try clear p2
                  try clear q134
                  obtain ⟨x6_2, x7_2, x8_2, rfl, rfl, rfl, HA, HK2, HB⟩ := hrel
                  cases gk with
                  | zero => exact absurd HA.out (by simp [trunnionref04_Make.l0])
                  | succ k2 =>
                    have H := HA.out
                    clear HA
                    simp only [trunnionref04_Make.l0] at H
                    by_cases c13 : x8_2 < (l0.length : Int)
                    · rw [if_pos c13] at H
                      have c13b0 : decide (x8_2 < (l0.length : Int)) = true := decide_eq_true c13
                      clear c13
                      replace H := Option.bind_eq_some_iff.mp H
                      obtain ⟨t138, A140, H⟩ := H
                      replace H : (if 0 ≤ x8_2 then ((trunnionref03_Fold.f k2 x6_2 1 (rdOf ByteArray.empty l0 x8_2)).bind fun bt140 => ((trunnionref03_Fold.f k2 x7_2 t138 (rdOf ByteArray.empty l0 x8_2)).bind fun bt143 => (trunnionref04_Make.l0 k2 l0 bt140.1 bt143.1 (wrap64 (x8_2 + 1))))) else (none)) = some (r1, r2, r3) := H
                      have A14 := Aside0.mk A140
                      clear A140
                      by_cases c15 : 0 ≤ x8_2
                      · rw [if_pos c15] at H
                        have c15b0 : decide (0 ≤ x8_2) = true := decide_eq_true c15
                        clear c15
                        replace H := Option.bind_eq_some_iff.mp H
                        obtain ⟨⟨t140, t141⟩, A160, H⟩ := H
                        replace H : ((trunnionref03_Fold.f k2 x7_2 t138 (rdOf ByteArray.empty l0 x8_2)).bind fun bt143 => (trunnionref04_Make.l0 k2 l0 t140 bt143.1 (wrap64 (x8_2 + 1)))) = some (r1, r2, r3) := H
                        have A16 := Aside0.mk A160
                        clear A160
                        replace H := Option.bind_eq_some_iff.mp H
                        obtain ⟨⟨t143, t144⟩, A170, H⟩ := H
                        replace H : (trunnionref04_Make.l0 k2 l0 t140 t143 (wrap64 (x8_2 + 1))) = some (r1, r2, r3) := H
                        have A17 := Aside0.mk A170
                        clear A170
                        have H' := Aside0.mk H
                        clear H
                        go_wp2_with (first | ((with_reducible refine gate_callee (f := 30) rfl ?_); refine goesL_ (some 41) rfl rfl Try.func30 (by kernel_rfl) rfl #[.int .i64 x8_2] rfl (by (try simp only [List.map_toArray, List.map_cons, List.map_nil]); first | done | rfl | (simp only [List.length_drop, List.length_take]; rfl)) ?_; (with_reducible refine (trunnionref04_Power.calls k2 x8_2 t138 _ A14.out).mono ?_); rintro e w18 ⟨rfl, hb⟩; refine ⟨_, rfl, ?_⟩; have n0_ := Aside0.mk (below_step (by repeat (first | (with_reducible first | exact HB.out | apply below_alloc | apply pw_below_drewN | apply below_drew1) | exact HB.out)) hb); clear HB; have HB := n0_; clear n0_; (try clear hb); (try clear hb2); (try clear hk); (try clear hi); have p139 : 0 ≤ (x8_2 : Int) := of_decide_eq_true (by first | (with_reducible assumption) | assumption); have q139 : x8_2 < (l0.length : Int) := of_decide_eq_true (by first | (with_reducible assumption) | assumption); obtain ⟨ad139, e139, hx139_0⟩ := Kd.at_string HR0.out x8_2 p139 q139; obtain rfl : ad134 = ad139 := (by injection e139); replace hx139_0 := (HB.out.cell (World.block_lt_of_cell? w _ hx139_0)).trans hx139_0; replace p139 := eq_true p139; replace q139 := eq_true q139) | ((with_reducible refine gate_callee (f := 21) rfl ?_); refine goesL_ (some 48) rfl rfl Try.func21 (by kernel_rfl) rfl #[.string x6_2, .int .u8 1, .string (rdOf ByteArray.empty l0 x8_2)] rfl (by (try simp only [List.map_toArray, List.map_cons, List.map_nil]); first | done | rfl | (simp only [List.length_drop, List.length_take]; rfl)) ?_; (with_reducible refine (trunnionref03_Fold.calls k2 x6_2 1 (rdOf ByteArray.empty l0 x8_2) t140 t141 _ A16.out).mono ?_); rintro e w19 ⟨rfl, hb⟩; refine ⟨_, rfl, ?_⟩; have n0_ := Aside0.mk (below_step (by repeat (first | (with_reducible first | exact HB.out | apply below_alloc | apply pw_below_drewN | apply below_drew1) | exact HB.out)) hb); clear HB; have HB := n0_; clear n0_; (try clear hb); (try clear hb2); (try clear hk); (try clear hi); have p142 : 0 ≤ (x8_2 : Int) := of_decide_eq_true (by first | (with_reducible assumption) | assumption); have q142 : x8_2 < (l0.length : Int) := of_decide_eq_true (by first | (with_reducible assumption) | assumption); obtain ⟨ad142, e142, hx142_0⟩ := Kd.at_string HR0.out x8_2 p142 q142; obtain rfl : ad134 = ad142 := (by injection e142); replace hx142_0 := (HB.out.cell (World.block_lt_of_cell? w _ hx142_0)).trans hx142_0; replace p142 := eq_true p142; replace q142 := eq_true q142) | ((with_reducible refine gate_callee (f := 21) rfl ?_); refine goesL_ (some 58) rfl rfl Try.func21 (by kernel_rfl) rfl #[.string x7_2, .int .u8 t138, .string (rdOf ByteArray.empty l0 x8_2)] rfl (by (try simp only [List.map_toArray, List.map_cons, List.map_nil]); first | done | rfl | (simp only [List.length_drop, List.length_take]; rfl)) ?_; (with_reducible refine (trunnionref03_Fold.calls k2 x7_2 t138 (rdOf ByteArray.empty l0 x8_2) t143 t144 _ A17.out).mono ?_); rintro e w20 ⟨rfl, hb⟩; refine ⟨_, rfl, ?_⟩; have n0_ := Aside0.mk (below_step (by repeat (first | (with_reducible first | exact HB.out | apply below_alloc | apply pw_below_drewN | apply below_drew1) | exact HB.out)) hb); clear HB; have HB := n0_; clear n0_; (try clear hb); (try clear hb2); (try clear hk); (try clear hi)))
                        go_roundg k2
                        case measure => have := HJ1.out; have := HK2.out; omega
                        case rel => exact ⟨(t140), (t143), (wrap64 (x8_2 + 1)), (by first | rfl | (simp; done) | (simp [*]; done)), (by first | rfl | (simp; done) | (simp [*]; done)), (by first | rfl | (simp; done) | (simp [*]; done)), H', ⟨by have := HJ1.out; have := HK2.out; omega⟩, ⟨by repeat (first | (with_reducible first | exact HB.out | apply below_alloc | apply pw_below_drewN | apply below_drew1) | exact HB.out)⟩⟩
                      · rw [if_neg c15] at H
                        exact absurd H (by simp)
                    · rw [if_neg c13] at H
                      have c13b0 : decide (x8_2 < (l0.length : Int)) = false := decide_eq_false c13
                      clear c13
                      simp only [Option.some.injEq, Prod.mk.injEq] at H
                      obtain ⟨rfl, rfl, rfl⟩ := H
                      go_wp2
                      go_ret3
                      exact ⟨by first | rfl | (simp [errW_none, errW_some] <;> rfl) | (simp [*, errW_none, errW_some] <;> rfl), by repeat (first | (with_reducible first | exact HB.out | apply below_alloc | apply pw_below_drewN | apply below_drew1) | exact HB.out)⟩
              · rw [if_neg c9] at H
                exact absurd H (by simp)
            · rw [if_neg c8] at H
              exact absurd H (by simp)
          · rw [if_neg c7] at H
            exact absurd H (by simp)
        · rw [if_neg c6] at H
          have c6b0 : (t133 == 0) = false := beq_eq_false_iff_ne.mpr c6
          have c6b1 : (t133 != 0) = true := bne_iff_ne.mpr c6
          simp only [Option.some.injEq, Prod.mk.injEq] at H
          obtain ⟨rfl, rfl, rfl⟩ := H
          go_wp2_with (first | ((with_reducible refine gate_callee (f := 38) rfl ?_); refine goesL_ (some 23) rfl rfl Try.func38 (by kernel_rfl) rfl #[.slice A0 l0.length c0] rfl (by (try simp only [List.map_toArray, List.map_cons, List.map_nil]); first | done | rfl | (simp only [List.length_drop, List.length_take]; rfl)) ?_; (with_reducible refine (trunnionref03_Fit.calls kj1 _ _ l0 t133 _ ?side1 ?side2 A5.out).mono ?_); (case side1 => repeat (first | exact (Kd.C_below HR0.out HB.out) | (with_reducible refine Kd.C_alloc ?_ _) | (with_reducible refine Kd.C_drewN ?_ _) | (with_reducible refine Kd.C_drew ?_))); (case side2 => exact HC0.out); rintro e w' ⟨rfl, ⟨nd, rfl⟩⟩; refine ⟨_, rfl, ?_⟩))
          go_ret3
          exact ⟨by first | rfl | (simp [errW_none, errW_some] <;> rfl) | (simp [*, errW_none, errW_some] <;> rfl), by repeat (first | (with_reducible first | exact HB.out | apply below_alloc | apply pw_below_drewN | apply below_drew1) | exact HB.out)⟩

/-! ### trunnionref04_Delta: function 34 -/
def trunnionref04_Delta.j0 : Nat → ByteArray → ByteArray → Int → ByteArray → ByteArray → Bool → Option (ByteArray × ByteArray × Int)
  | 0, _, _, _, _, _, _ => none
  | k + 1, x0, x1, x2, x3, x4, x28 => if x28 = true then (some ((⟨#[]⟩ : ByteArray), (⟨#[]⟩ : ByteArray), 3)) else ((trunnionref03_Fit.f k (([x0, x1, x3, x4] : List ByteArray))).bind fun t148 => (if t148 = 0 then ((trunnionref04_Power.f k x2).bind fun t149 => ((trunnionref03_Fold.f k x0 1 x3).bind fun bt150 => ((trunnionref03_Fold.f k bt150.1 1 x4).bind fun bt152 => ((trunnionref03_Fold.f k x1 t149 x3).bind fun bt154 => ((trunnionref03_Fold.f k bt154.1 t149 x4).bind fun bt156 => (some (bt152.1, bt156.1, 0))))))) else (some ((⟨#[]⟩ : ByteArray), (⟨#[]⟩ : ByteArray), t148))))
def trunnionref04_Delta.f (k : Nat) (a0 : ByteArray) (a1 : ByteArray) (a2 : Int) (a3 : ByteArray) (a4 : ByteArray) : Option (ByteArray × ByteArray × Int) := if a2 < 0 then (trunnionref04_Delta.j0 k a0 a1 a2 a3 a4 true) else (trunnionref04_Delta.j0 k a0 a1 a2 a3 a4 (decide (a2 ≥ 30)))
theorem trunnionref04_Delta.mono_l : ∀ k, (∀ y0 y1 y2 y3 y4 y5, LeO (trunnionref04_Delta.j0 k y0 y1 y2 y3 y4 y5) (trunnionref04_Delta.j0 (k + 1) y0 y1 y2 y3 y4 y5))
  | 0 => fun _ _ _ _ _ _ r h => by simp [trunnionref04_Delta.j0] at h
  | k + 1 => by
    have ih0 := trunnionref04_Delta.mono_l k
    · intro y0 y1 y2 y3 y4 y5
      unfold trunnionref04_Delta.j0
      repeat' first
      | (with_reducible exact ih0 _ _ _ _ _ _)
      | (with_reducible exact trunnionref03_Fit.mono _ _)
      | (with_reducible exact trunnionref03_Fold.mono _ _ _ _)
      | (with_reducible exact trunnionref04_Power.mono _ _)
      | (with_reducible exact LeO.refl _)
      | (with_reducible exact LeO.none _)
      | (with_reducible refine LeO.ite ?_ ?_)
      | (with_reducible refine LeO.bind ?_ (fun _ => ?_))
      | exact ih0 _ _ _ _ _ _
      | exact trunnionref03_Fit.mono _ _
      | exact trunnionref03_Fold.mono _ _ _ _
      | exact trunnionref04_Power.mono _ _
      | exact LeO.none _
      | refine LeO.ite ?_ ?_
      | refine LeO.bind ?_ (fun _ => ?_)
theorem trunnionref04_Delta.mono : ∀ a0 a1 a2 a3 a4 k, LeO (trunnionref04_Delta.f k a0 a1 a2 a3 a4) (trunnionref04_Delta.f (k + 1) a0 a1 a2 a3 a4) := by
  intro a0 a1 a2 a3 a4 k
  have ih0 := trunnionref04_Delta.mono_l k
  unfold trunnionref04_Delta.f
  repeat' first
      | (with_reducible exact ih0 _ _ _ _ _ _)
      | (with_reducible exact trunnionref03_Fit.mono _ _)
      | (with_reducible exact trunnionref03_Fold.mono _ _ _ _)
      | (with_reducible exact trunnionref04_Power.mono _ _)
      | (with_reducible exact LeO.refl _)
      | (with_reducible exact LeO.none _)
      | (with_reducible refine LeO.ite ?_ ?_)
      | (with_reducible refine LeO.bind ?_ (fun _ => ?_))
      | exact ih0 _ _ _ _ _ _
      | exact trunnionref03_Fit.mono _ _
      | exact trunnionref03_Fold.mono _ _ _ _
      | exact trunnionref04_Power.mono _ _
      | exact LeO.none _
      | refine LeO.ite ?_ ?_
      | refine LeO.bind ?_ (fun _ => ?_)
set_option maxHeartbeats 8000000 in
set_option maxRecDepth 100000 in
theorem trunnionref04_Delta.calls (k : Nat) (a0 : ByteArray) (a1 : ByteArray) (a2 : Int) (a3 : ByteArray) (a4 : ByteArray) (r1 : ByteArray) (r2 : ByteArray) (r3 : Int) (w : World) (h : trunnionref04_Delta.f k a0 a1 a2 a3 a4 = some (r1, r2, r3)) :
    Calls Try.prog 34 #[.string a0, .string a1, .int .i64 a2, .string a3, .string a4] w fun e w' => e = .returned (.tuple #[.string r1, .string r2, .int .i64 r3]) ∧ Below w.heap.size w w' := by
  have HB := Aside0.mk (Below.refl w.heap.size w)
  have H : (if a2 < 0 then (trunnionref04_Delta.j0 k a0 a1 a2 a3 a4 true) else (trunnionref04_Delta.j0 k a0 a1 a2 a3 a4 (decide (a2 ≥ 30)))) = some (r1, r2, r3) := h
  clear h
  have HC6 := Aside0.mk H
  clear H
  go_enter Try.func34, Try.ntmps34
  go_upto_region 1 with (fail)
  go_cut [28] (fun v28 wc => ∃ (kq : Nat) (x28_5 : Bool), v28 = .bool x28_5 ∧ Aside0 (trunnionref04_Delta.j0 kq a0 a1 a2 a3 a4 x28_5 = some (r1, r2, r3)) ∧ Aside0 (kq ≤ k) ∧ Aside0 (Below w.heap.size w wc))
  case first =>
    have H := HC6.out
    clear HC6
    by_cases c7 : a2 < 0
    · rw [if_pos c7] at H
      have c7b0 : decide (a2 < 0) = true := decide_eq_true c7
      clear c7
      (first | rw [c7b0] | (simp only [i64_w, i32_w]; rw [c7b0]) | skip)
      have H' := Aside0.mk H
      clear H
      go_wp2
      go_meet
      case rel => exact ⟨_, (true), (by first | rfl | (simp; done) | (simp [*]; done)), H', ⟨by first | omega | exact Nat.le_refl _⟩, ⟨by repeat (first | (with_reducible first | exact HB.out | apply below_alloc | apply pw_below_drewN | apply below_drew1) | exact HB.out)⟩⟩
    · rw [if_neg c7] at H
      have c7b0 : decide (a2 < 0) = false := decide_eq_false c7
      clear c7
      (first | rw [c7b0] | (simp only [i64_w, i32_w]; rw [c7b0]) | skip)
      have H' := Aside0.mk H
      clear H
      go_wp2
      go_meet
      case rel => exact ⟨_, (decide (a2 ≥ 30)), (by first | rfl | (simp; done) | (simp [*]; done)), H', ⟨by first | omega | exact Nat.le_refl _⟩, ⟨by repeat (first | (with_reducible first | exact HB.out | apply below_alloc | apply pw_below_drewN | apply below_drew1) | exact HB.out)⟩⟩
  case rest =>
    clear HC6
    try clear p2
    try clear c3
    try clear c7
    try clear c7b0
    obtain ⟨kq, x28_5, rfl, HA, HJ5, HB⟩ := hcut
    cases kq with
    | zero => exact absurd HA.out (by simp [trunnionref04_Delta.j0])
    | succ kj5 =>
      have H := HA.out
      clear HA
      simp only [trunnionref04_Delta.j0] at H
      by_cases c8 : x28_5 = true
      · subst c8
        have H1 : (some ((⟨#[]⟩ : ByteArray), (⟨#[]⟩ : ByteArray), 3)) = some (r1, r2, r3) := by rw [if_pos rfl] at H; exact H
        clear H
        have H := H1
        clear H1
        simp only [Option.some.injEq, Prod.mk.injEq] at H
        obtain ⟨rfl, rfl, rfl⟩ := H
        go_wp2
        go_ret3
        exact ⟨by first | rfl | (simp [errW_none, errW_some] <;> rfl) | (simp [*, errW_none, errW_some] <;> rfl), by repeat (first | (with_reducible first | exact HB.out | apply below_alloc | apply pw_below_drewN | apply below_drew1) | exact HB.out)⟩
      · replace c8 := Bool.eq_false_iff.mpr c8
        subst c8
        have H1 : ((trunnionref03_Fit.f kj5 (([a0, a1, a3, a4] : List ByteArray))).bind fun t148 => (if t148 = 0 then ((trunnionref04_Power.f kj5 a2).bind fun t149 => ((trunnionref03_Fold.f kj5 a0 1 a3).bind fun bt150 => ((trunnionref03_Fold.f kj5 bt150.1 1 a4).bind fun bt152 => ((trunnionref03_Fold.f kj5 a1 t149 a3).bind fun bt154 => ((trunnionref03_Fold.f kj5 bt154.1 t149 a4).bind fun bt156 => (some (bt152.1, bt156.1, 0))))))) else (some ((⟨#[]⟩ : ByteArray), (⟨#[]⟩ : ByteArray), t148)))) = some (r1, r2, r3) := by rw [if_neg (show ¬ (false = true) by decide)] at H; exact H
        clear H
        have H := H1
        clear H1
        obtain ⟨y145, hy145⟩ : ∃ y_ : List ByteArray, y_ = (([a0, a1, a3, a4] : List ByteArray)) := ⟨_, rfl⟩
        replace H : ((trunnionref03_Fit.f kj5 y145).bind fun t148 => (if t148 = 0 then ((trunnionref04_Power.f kj5 a2).bind fun t149 => ((trunnionref03_Fold.f kj5 a0 1 a3).bind fun bt150 => ((trunnionref03_Fold.f kj5 bt150.1 1 a4).bind fun bt152 => ((trunnionref03_Fold.f kj5 a1 t149 a3).bind fun bt154 => ((trunnionref03_Fold.f kj5 bt154.1 t149 a4).bind fun bt156 => (some (bt152.1, bt156.1, 0))))))) else (some ((⟨#[]⟩ : ByteArray), (⟨#[]⟩ : ByteArray), t148)))) = some (r1, r2, r3) := by first | (rw [hy145]; with_reducible exact H) | (have H2_ := (Option.bind_some _ _).symm.trans H; rw [hy145]; with_reducible exact H2_) | (have H2_ := (Option.bind_some _ _).symm.trans H; with_reducible exact H2_) | with_reducible exact H | (rw [hy145]; exact H) | exact H
        have Ny145 := Aside0.mk hy145
        clear hy145
        replace H := Option.bind_eq_some_iff.mp H
        obtain ⟨t148, A90, H⟩ := H
        replace H : (if t148 = 0 then ((trunnionref04_Power.f kj5 a2).bind fun t149 => ((trunnionref03_Fold.f kj5 a0 1 a3).bind fun bt150 => ((trunnionref03_Fold.f kj5 bt150.1 1 a4).bind fun bt152 => ((trunnionref03_Fold.f kj5 a1 t149 a3).bind fun bt154 => ((trunnionref03_Fold.f kj5 bt154.1 t149 a4).bind fun bt156 => (some (bt152.1, bt156.1, 0))))))) else (some ((⟨#[]⟩ : ByteArray), (⟨#[]⟩ : ByteArray), t148))) = some (r1, r2, r3) := H
        have A9 := Aside0.mk A90
        clear A90
        by_cases c10 : t148 = 0
        · rw [if_pos c10] at H
          have c10b0 : (t148 == 0) = true := beq_iff_eq.mpr c10
          have c10b1 : (t148 != 0) = false := bne_eq_false_iff_eq.mpr c10
          clear c10
          replace H := Option.bind_eq_some_iff.mp H
          obtain ⟨t149, A110, H⟩ := H
          replace H : ((trunnionref03_Fold.f kj5 a0 1 a3).bind fun bt150 => ((trunnionref03_Fold.f kj5 bt150.1 1 a4).bind fun bt152 => ((trunnionref03_Fold.f kj5 a1 t149 a3).bind fun bt154 => ((trunnionref03_Fold.f kj5 bt154.1 t149 a4).bind fun bt156 => (some (bt152.1, bt156.1, 0)))))) = some (r1, r2, r3) := H
          have A11 := Aside0.mk A110
          clear A110
          replace H := Option.bind_eq_some_iff.mp H
          obtain ⟨⟨t150, t151⟩, A120, H⟩ := H
          replace H : ((trunnionref03_Fold.f kj5 t150 1 a4).bind fun bt152 => ((trunnionref03_Fold.f kj5 a1 t149 a3).bind fun bt154 => ((trunnionref03_Fold.f kj5 bt154.1 t149 a4).bind fun bt156 => (some (bt152.1, bt156.1, 0))))) = some (r1, r2, r3) := H
          have A12 := Aside0.mk A120
          clear A120
          replace H := Option.bind_eq_some_iff.mp H
          obtain ⟨⟨t152, t153⟩, A130, H⟩ := H
          replace H : ((trunnionref03_Fold.f kj5 a1 t149 a3).bind fun bt154 => ((trunnionref03_Fold.f kj5 bt154.1 t149 a4).bind fun bt156 => (some (t152, bt156.1, 0)))) = some (r1, r2, r3) := H
          have A13 := Aside0.mk A130
          clear A130
          replace H := Option.bind_eq_some_iff.mp H
          obtain ⟨⟨t154, t155⟩, A140, H⟩ := H
          replace H : ((trunnionref03_Fold.f kj5 t154 t149 a4).bind fun bt156 => (some (t152, bt156.1, 0))) = some (r1, r2, r3) := H
          have A14 := Aside0.mk A140
          clear A140
          replace H := Option.bind_eq_some_iff.mp H
          obtain ⟨⟨t156, t157⟩, A150, H⟩ := H
          replace H : (some (t152, t156, 0)) = some (r1, r2, r3) := H
          have A15 := Aside0.mk A150
          clear A150
          simp only [Option.some.injEq, Prod.mk.injEq] at H
          obtain ⟨rfl, rfl, rfl⟩ := H
          go_wp2_with (first | ((with_reducible refine gate_dst (N := 33) rfl ?_); refine Kd.R_lit Kd.string _ 9 ?hg (N := 33) ?hd (xs := ([a0, a1, a3, a4] : List ByteArray)) (inner := [.string a0, .string a1, .string a3, .string a4]) (ok := fun _ => True) (okp := fun _ => True) ?hr ?hp (fun _ hk => hk) trivial (Below.refl _ _) (Nat.le_refl _) (by simp) ?_; (case hd => rfl); (case hg => rfl); (case hr => first | (go_simp; done) | (go_simp; rfl)); (case hp => exact (Reps.one (show Kd.M Kd.string _ _ _ a0 [.string a0] from rfl) (Reps.one (show Kd.M Kd.string _ _ _ a1 [.string a1] from rfl) (Reps.one (show Kd.M Kd.string _ _ _ a3 [.string a3] from rfl) (Reps.one (show Kd.M Kd.string _ _ _ a4 [.string a4] from rfl) (Reps.none _ _)))))); intro v146 w16 ho17 hb hg_ hnew_; clear hg_ hnew_; (first | rw [← Ny145.out] at ho17 | (simp only [Int.reduceToNat] at ho17; rw [← Ny145.out] at ho17)); have n0_ := Aside0.mk (Kd.R_lower ho17 (below_size (by repeat (first | (with_reducible first | exact HB.out | apply below_alloc | apply pw_below_drewN | apply below_drew1) | exact HB.out)))); have n1_ := Aside0.mk (below_step (by repeat (first | (with_reducible first | exact HB.out | apply below_alloc | apply pw_below_drewN | apply below_drew1) | exact HB.out)) hb); clear HB; have HO147 := n0_; have HB := n1_; clear n0_ n1_; clear hb ho17; obtain ⟨Ao18, co18, eo18⟩ := Kd.R_slice HO147.out; subst eo18) | ((with_reducible refine gate_callee (f := 38) rfl ?_); refine goesL_ (some 34) rfl rfl Try.func38 (by kernel_rfl) rfl #[.slice Ao18 y145.length co18] rfl (by (try simp only [List.map_toArray, List.map_cons, List.map_nil]); first | done | rfl | (simp only [List.length_drop, List.length_take]; rfl)) ?_; (with_reducible refine (trunnionref03_Fit.calls kj5 _ _ y145 t148 _ ?side1 ?side2 A9.out).mono ?_); (case side1 => repeat (first | exact (Kd.R_reads' HO147.out).2.2 | (with_reducible refine Kd.C_alloc ?_ _) | (with_reducible refine Kd.C_drewN ?_ _) | (with_reducible refine Kd.C_drew ?_))); (case side2 => exact (Kd.R_reads' HO147.out).2.1); rintro e w' ⟨rfl, ⟨nd, rfl⟩⟩; refine ⟨_, rfl, ?_⟩) | ((with_reducible refine gate_callee (f := 30) rfl ?_); refine goesL_ (some 39) rfl rfl Try.func30 (by kernel_rfl) rfl #[.int .i64 a2] rfl (by (try simp only [List.map_toArray, List.map_cons, List.map_nil]); first | done | rfl | (simp only [List.length_drop, List.length_take]; rfl)) ?_; (with_reducible refine (trunnionref04_Power.calls kj5 a2 t149 _ A11.out).mono ?_); rintro e w19 ⟨rfl, hb⟩; refine ⟨_, rfl, ?_⟩; have n0_ := Aside0.mk (Kd.R_below (by (with_reducible repeat (first | apply Kd.R_alloc | apply Kd.R_drewN | apply Kd.R_drew)); exact HO147.out) hb); have n1_ := Aside0.mk (below_step (by repeat (first | (with_reducible first | exact HB.out | apply below_alloc | apply pw_below_drewN | apply below_drew1) | exact HB.out)) hb); clear HO147; clear HB; have HO147 := n0_; have HB := n1_; clear n0_ n1_; (try clear hb); (try clear hb2); (try clear hk); (try clear hi)) | ((with_reducible refine gate_callee (f := 21) rfl ?_); refine goesL_ (some 43) rfl rfl Try.func21 (by kernel_rfl) rfl #[.string a0, .int .u8 1, .string a3] rfl (by (try simp only [List.map_toArray, List.map_cons, List.map_nil]); first | done | rfl | (simp only [List.length_drop, List.length_take]; rfl)) ?_; (with_reducible refine (trunnionref03_Fold.calls kj5 a0 1 a3 t150 t151 _ A12.out).mono ?_); rintro e w20 ⟨rfl, hb⟩; refine ⟨_, rfl, ?_⟩; have n0_ := Aside0.mk (Kd.R_below (by (with_reducible repeat (first | apply Kd.R_alloc | apply Kd.R_drewN | apply Kd.R_drew)); exact HO147.out) hb); have n1_ := Aside0.mk (below_step (by repeat (first | (with_reducible first | exact HB.out | apply below_alloc | apply pw_below_drewN | apply below_drew1) | exact HB.out)) hb); clear HO147; clear HB; have HO147 := n0_; have HB := n1_; clear n0_ n1_; (try clear hb); (try clear hb2); (try clear hk); (try clear hi)) | ((with_reducible refine gate_callee (f := 21) rfl ?_); refine goesL_ (some 49) rfl rfl Try.func21 (by kernel_rfl) rfl #[.string t150, .int .u8 1, .string a4] rfl (by (try simp only [List.map_toArray, List.map_cons, List.map_nil]); first | done | rfl | (simp only [List.length_drop, List.length_take]; rfl)) ?_; (with_reducible refine (trunnionref03_Fold.calls kj5 t150 1 a4 t152 t153 _ A13.out).mono ?_); rintro e w21 ⟨rfl, hb⟩; refine ⟨_, rfl, ?_⟩; have n0_ := Aside0.mk (Kd.R_below (by (with_reducible repeat (first | apply Kd.R_alloc | apply Kd.R_drewN | apply Kd.R_drew)); exact HO147.out) hb); have n1_ := Aside0.mk (below_step (by repeat (first | (with_reducible first | exact HB.out | apply below_alloc | apply pw_below_drewN | apply below_drew1) | exact HB.out)) hb); clear HO147; clear HB; have HO147 := n0_; have HB := n1_; clear n0_ n1_; (try clear hb); (try clear hb2); (try clear hk); (try clear hi)) | ((with_reducible refine gate_callee (f := 21) rfl ?_); refine goesL_ (some 56) rfl rfl Try.func21 (by kernel_rfl) rfl #[.string a1, .int .u8 t149, .string a3] rfl (by (try simp only [List.map_toArray, List.map_cons, List.map_nil]); first | done | rfl | (simp only [List.length_drop, List.length_take]; rfl)) ?_; (with_reducible refine (trunnionref03_Fold.calls kj5 a1 t149 a3 t154 t155 _ A14.out).mono ?_); rintro e w22 ⟨rfl, hb⟩; refine ⟨_, rfl, ?_⟩; have n0_ := Aside0.mk (Kd.R_below (by (with_reducible repeat (first | apply Kd.R_alloc | apply Kd.R_drewN | apply Kd.R_drew)); exact HO147.out) hb); have n1_ := Aside0.mk (below_step (by repeat (first | (with_reducible first | exact HB.out | apply below_alloc | apply pw_below_drewN | apply below_drew1) | exact HB.out)) hb); clear HO147; clear HB; have HO147 := n0_; have HB := n1_; clear n0_ n1_; (try clear hb); (try clear hb2); (try clear hk); (try clear hi)) | ((with_reducible refine gate_callee (f := 21) rfl ?_); refine goesL_ (some 63) rfl rfl Try.func21 (by kernel_rfl) rfl #[.string t154, .int .u8 t149, .string a4] rfl (by (try simp only [List.map_toArray, List.map_cons, List.map_nil]); first | done | rfl | (simp only [List.length_drop, List.length_take]; rfl)) ?_; (with_reducible refine (trunnionref03_Fold.calls kj5 t154 t149 a4 t156 t157 _ A15.out).mono ?_); rintro e w23 ⟨rfl, hb⟩; refine ⟨_, rfl, ?_⟩; have n0_ := Aside0.mk (Kd.R_below (by (with_reducible repeat (first | apply Kd.R_alloc | apply Kd.R_drewN | apply Kd.R_drew)); exact HO147.out) hb); have n1_ := Aside0.mk (below_step (by repeat (first | (with_reducible first | exact HB.out | apply below_alloc | apply pw_below_drewN | apply below_drew1) | exact HB.out)) hb); clear HO147; clear HB; have HO147 := n0_; have HB := n1_; clear n0_ n1_; (try clear hb); (try clear hb2); (try clear hk); (try clear hi)))
          go_ret3
          exact ⟨by first | rfl | (simp [errW_none, errW_some] <;> rfl) | (simp [*, errW_none, errW_some] <;> rfl), by repeat (first | (with_reducible first | exact HB.out | apply below_alloc | apply pw_below_drewN | apply below_drew1) | exact HB.out)⟩
        · rw [if_neg c10] at H
          have c10b0 : (t148 == 0) = false := beq_eq_false_iff_ne.mpr c10
          have c10b1 : (t148 != 0) = true := bne_iff_ne.mpr c10
          simp only [Option.some.injEq, Prod.mk.injEq] at H
          obtain ⟨rfl, rfl, rfl⟩ := H
          go_wp2_with (first | ((with_reducible refine gate_dst (N := 33) rfl ?_); refine Kd.R_lit Kd.string _ 9 ?hg (N := 33) ?hd (xs := ([a0, a1, a3, a4] : List ByteArray)) (inner := [.string a0, .string a1, .string a3, .string a4]) (ok := fun _ => True) (okp := fun _ => True) ?hr ?hp (fun _ hk => hk) trivial (Below.refl _ _) (Nat.le_refl _) (by simp) ?_; (case hd => rfl); (case hg => rfl); (case hr => first | (go_simp; done) | (go_simp; rfl)); (case hp => exact (Reps.one (show Kd.M Kd.string _ _ _ a0 [.string a0] from rfl) (Reps.one (show Kd.M Kd.string _ _ _ a1 [.string a1] from rfl) (Reps.one (show Kd.M Kd.string _ _ _ a3 [.string a3] from rfl) (Reps.one (show Kd.M Kd.string _ _ _ a4 [.string a4] from rfl) (Reps.none _ _)))))); intro v146 w24 ho25 hb hg_ hnew_; clear hg_ hnew_; (first | rw [← Ny145.out] at ho25 | (simp only [Int.reduceToNat] at ho25; rw [← Ny145.out] at ho25)); have n0_ := Aside0.mk (Kd.R_lower ho25 (below_size (by repeat (first | (with_reducible first | exact HB.out | apply below_alloc | apply pw_below_drewN | apply below_drew1) | exact HB.out)))); have n1_ := Aside0.mk (below_step (by repeat (first | (with_reducible first | exact HB.out | apply below_alloc | apply pw_below_drewN | apply below_drew1) | exact HB.out)) hb); clear HB; have HO147 := n0_; have HB := n1_; clear n0_ n1_; clear hb ho25; obtain ⟨Ao26, co26, eo26⟩ := Kd.R_slice HO147.out; subst eo26) | ((with_reducible refine gate_callee (f := 38) rfl ?_); refine goesL_ (some 34) rfl rfl Try.func38 (by kernel_rfl) rfl #[.slice Ao26 y145.length co26] rfl (by (try simp only [List.map_toArray, List.map_cons, List.map_nil]); first | done | rfl | (simp only [List.length_drop, List.length_take]; rfl)) ?_; (with_reducible refine (trunnionref03_Fit.calls kj5 _ _ y145 t148 _ ?side1 ?side2 A9.out).mono ?_); (case side1 => repeat (first | exact (Kd.R_reads' HO147.out).2.2 | (with_reducible refine Kd.C_alloc ?_ _) | (with_reducible refine Kd.C_drewN ?_ _) | (with_reducible refine Kd.C_drew ?_))); (case side2 => exact (Kd.R_reads' HO147.out).2.1); rintro e w' ⟨rfl, ⟨nd, rfl⟩⟩; refine ⟨_, rfl, ?_⟩))
          go_ret3
          exact ⟨by first | rfl | (simp [errW_none, errW_some] <;> rfl) | (simp [*, errW_none, errW_some] <;> rfl), by repeat (first | (with_reducible first | exact HB.out | apply below_alloc | apply pw_below_drewN | apply below_drew1) | exact HB.out)⟩

/-! ### trunnionref04_Fits: function 32 -/
def trunnionref04_Fits.f (k : Nat) (l0 : List ByteArray) (a1 : ByteArray) (a2 : ByteArray) : Option (Bool) := (trunnionref04_Make.f k l0).bind fun bt158 => (if bt158.2.2 = 0 then (if bt158.1.toList = a1.toList then (some (bt158.2.1.toList == a2.toList)) else (some false)) else (some false))
theorem trunnionref04_Fits.mono : ∀ a0 a1 a2 k, LeO (trunnionref04_Fits.f k a0 a1 a2) (trunnionref04_Fits.f (k + 1) a0 a1 a2) := by
  intro a0 a1 a2 k
  unfold trunnionref04_Fits.f
  repeat' first
      | (with_reducible exact trunnionref04_Make.mono _ _)
      | (with_reducible exact LeO.refl _)
      | (with_reducible exact LeO.none _)
      | (with_reducible refine LeO.ite ?_ ?_)
      | (with_reducible refine LeO.bind ?_ (fun _ => ?_))
      | exact trunnionref04_Make.mono _ _
      | exact LeO.none _
      | refine LeO.ite ?_ ?_
      | refine LeO.bind ?_ (fun _ => ?_)
set_option maxHeartbeats 8000000 in
set_option maxRecDepth 100000 in
theorem trunnionref04_Fits.calls (k : Nat) (A0 : Option Addr) (c0 : Nat) (l0 : List ByteArray) (a1 : ByteArray) (a2 : ByteArray) (r : Bool) (w : World) (hr0 : Kd.C Kd.string w A0 l0.length l0) (hc0 : l0.length ≤ c0) (h : trunnionref04_Fits.f k l0 a1 a2 = some r) :
    Calls Try.prog 32 #[.slice A0 l0.length c0, .string a1, .string a2] w fun e w' => e = .returned (.bool r) ∧ Below w.heap.size w w' := by
  have HR0 := Aside0.mk hr0
  have HC0 := Aside0.mk hc0
  clear hr0 hc0
  have HB := Aside0.mk (Below.refl w.heap.size w)
  have H : ((trunnionref04_Make.f k l0).bind fun bt158 => (if bt158.2.2 = 0 then (if bt158.1.toList = a1.toList then (some (bt158.2.1.toList == a2.toList)) else (some false)) else (some false))) = some r := h
  clear h
  replace H := Option.bind_eq_some_iff.mp H
  obtain ⟨⟨t158, t159, t160⟩, A40, H⟩ := H
  replace H : (if t160 = 0 then (if t158.toList = a1.toList then (some (t159.toList == a2.toList)) else (some false)) else (some false)) = some r := H
  have A4 := Aside0.mk A40
  clear A40
  by_cases c5 : t160 = 0
  · rw [if_pos c5] at H
    have c5b0 : (t160 == 0) = true := beq_iff_eq.mpr c5
    have c5b1 : (t160 != 0) = false := bne_eq_false_iff_eq.mpr c5
    clear c5
    by_cases c6 : t158.toList = a1.toList
    · rw [if_pos c6] at H
      have c6b0 : (t158.toList == a1.toList) = true := beq_iff_eq.mpr c6
      have c6b1 : (t158.toList != a1.toList) = false := bne_eq_false_iff_eq.mpr c6
      clear c6
      obtain rfl := Option.some.inj H
      go_enter Try.func32, Try.ntmps32
      go_wp2_with (first | ((with_reducible refine gate_callee (f := 27) rfl ?_); refine goesL_ (some 12) rfl rfl Try.func27 (by kernel_rfl) rfl #[.slice A0 l0.length c0] rfl (by (try simp only [List.map_toArray, List.map_cons, List.map_nil]); first | done | rfl | (simp only [List.length_drop, List.length_take]; rfl)) ?_; (with_reducible refine (trunnionref04_Make.calls k _ _ l0 t158 t159 t160 _ ?side1 ?side2 A4.out).mono ?_); (case side1 => repeat (first | exact HR0.out | (with_reducible refine Kd.C_alloc ?_ _) | (with_reducible refine Kd.C_drewN ?_ _) | (with_reducible refine Kd.C_drew ?_))); (case side2 => exact HC0.out); rintro e w7 ⟨rfl, hb⟩; refine ⟨_, rfl, ?_⟩; have n0_ := Aside0.mk (below_step (by repeat (first | (with_reducible first | exact HB.out | apply below_alloc | apply pw_below_drewN | apply below_drew1) | exact HB.out)) hb); clear HB; have HB := n0_; clear n0_; (try clear hb); (try clear hb2); (try clear hk); (try clear hi)))
      go_ret
      exact ⟨by first | rfl | (simp [errW_none, errW_some] <;> rfl) | (simp [*, errW_none, errW_some] <;> rfl), by repeat (first | (with_reducible first | exact HB.out | apply below_alloc | apply pw_below_drewN | apply below_drew1) | exact HB.out)⟩
    · rw [if_neg c6] at H
      have c6b0 : (t158.toList == a1.toList) = false := beq_eq_false_iff_ne.mpr c6
      have c6b1 : (t158.toList != a1.toList) = true := bne_iff_ne.mpr c6
      obtain rfl := Option.some.inj H
      go_enter Try.func32, Try.ntmps32
      go_wp2_with (first | ((with_reducible refine gate_callee (f := 27) rfl ?_); refine goesL_ (some 12) rfl rfl Try.func27 (by kernel_rfl) rfl #[.slice A0 l0.length c0] rfl (by (try simp only [List.map_toArray, List.map_cons, List.map_nil]); first | done | rfl | (simp only [List.length_drop, List.length_take]; rfl)) ?_; (with_reducible refine (trunnionref04_Make.calls k _ _ l0 t158 t159 t160 _ ?side1 ?side2 A4.out).mono ?_); (case side1 => repeat (first | exact HR0.out | (with_reducible refine Kd.C_alloc ?_ _) | (with_reducible refine Kd.C_drewN ?_ _) | (with_reducible refine Kd.C_drew ?_))); (case side2 => exact HC0.out); rintro e w8 ⟨rfl, hb⟩; refine ⟨_, rfl, ?_⟩; have n0_ := Aside0.mk (below_step (by repeat (first | (with_reducible first | exact HB.out | apply below_alloc | apply pw_below_drewN | apply below_drew1) | exact HB.out)) hb); clear HB; have HB := n0_; clear n0_; (try clear hb); (try clear hb2); (try clear hk); (try clear hi)))
      go_ret
      exact ⟨by first | rfl | (simp [errW_none, errW_some] <;> rfl) | (simp [*, errW_none, errW_some] <;> rfl), by repeat (first | (with_reducible first | exact HB.out | apply below_alloc | apply pw_below_drewN | apply below_drew1) | exact HB.out)⟩
  · rw [if_neg c5] at H
    have c5b0 : (t160 == 0) = false := beq_eq_false_iff_ne.mpr c5
    have c5b1 : (t160 != 0) = true := bne_iff_ne.mpr c5
    obtain rfl := Option.some.inj H
    go_enter Try.func32, Try.ntmps32
    go_wp2_with (first | ((with_reducible refine gate_callee (f := 27) rfl ?_); refine goesL_ (some 12) rfl rfl Try.func27 (by kernel_rfl) rfl #[.slice A0 l0.length c0] rfl (by (try simp only [List.map_toArray, List.map_cons, List.map_nil]); first | done | rfl | (simp only [List.length_drop, List.length_take]; rfl)) ?_; (with_reducible refine (trunnionref04_Make.calls k _ _ l0 t158 t159 t160 _ ?side1 ?side2 A4.out).mono ?_); (case side1 => repeat (first | exact HR0.out | (with_reducible refine Kd.C_alloc ?_ _) | (with_reducible refine Kd.C_drewN ?_ _) | (with_reducible refine Kd.C_drew ?_))); (case side2 => exact HC0.out); rintro e w9 ⟨rfl, hb⟩; refine ⟨_, rfl, ?_⟩; have n0_ := Aside0.mk (below_step (by repeat (first | (with_reducible first | exact HB.out | apply below_alloc | apply pw_below_drewN | apply below_drew1) | exact HB.out)) hb); clear HB; have HB := n0_; clear n0_; (try clear hb); (try clear hb2); (try clear hk); (try clear hi)))
    go_ret
    exact ⟨by first | rfl | (simp [errW_none, errW_some] <;> rfl) | (simp [*, errW_none, errW_some] <;> rfl), by repeat (first | (with_reducible first | exact HB.out | apply below_alloc | apply pw_below_drewN | apply below_drew1) | exact HB.out)⟩

end Go.Proofs.Ytgojbngdncligaa.PBk
