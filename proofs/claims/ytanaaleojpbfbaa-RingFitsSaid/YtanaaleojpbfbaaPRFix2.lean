-- written by a program of this session (pr.py) for this claim
import Derived.Test.YtanaaleojpbfbaaPRFix0
import Derived.Test.YtanaaleojpbfbaaPRFix1
namespace Go.Proofs.Ytanaaleojpbfbaa.PRFi
open Go.RowKit Go.Proofs.YtanaaleojpbfbaaW.PrintWords Go.Proofs.YtanaaleojpbfbaaW.PrintLast Go.Proofs.YtanaaleojpbfbaaW.PrintMore
attribute [local go_sem] max2_int min2_int max_two min_two max_three min_three max_four min_four   -- for this text's walks alone
set_option linter.unusedVariables false
set_option linter.unusedSimpArgs false

/-! ### trunnionlaw13_RingFits: function 8 -/
mutual
def trunnionlaw13_RingFits.j0 : Nat → List Int → Bool → Option (Bool)
  | 0, _, _ => none
  | k + 1, x0, x32 => if x32 = true then (some false) else (if 0 ≤ (mn (x0.length : Int) 60) then (if (mn (x0.length : Int) 60) ≤ (x0.length : Int) then (trunnionlaw13_RingFits.l0 k ([] : List Int) (x0.take ((mn (x0.length : Int) 60) : Int).toNat) ((x0.take ((mn (x0.length : Int) 60) : Int).toNat).length : Int) 0) else (none)) else (none))
def trunnionlaw13_RingFits.l0 : Nat → List Int → List Int → Int → Int → Option (Bool)
  | 0, _, _, _, _ => none
  | k + 1, x5, x37, x38, x39 => if x39 < x38 then (if 0 ≤ x39 then (if x39 < (x37.length : Int) then (if x5.length < 17592186044416 then (trunnionlaw13_RingFits.l0 k (x5 ++ [(mx 0 (rd x37 x39)) % 40]) x37 x38 (wrap64 (x39 + 1))) else (none)) else (none)) else (none)) else ((ring_Pack.f x5).bind fun t135 => (if t135 < 0 then (trunnionlaw13_RingFits.j2 k x5 t135 0 true) else (trunnionlaw13_RingFits.j2 k x5 t135 0 (decide (t135 > (x5.length : Int))))))
def trunnionlaw13_RingFits.j2 : Nat → List Int → Int → Int → Bool → Option (Bool)
  | 0, _, _, _, _ => none
  | k + 1, x5, x8, x9, x59 => if x59 = true then (some false) else (if 0 ≤ x8 then (if x8 ≤ (x5.length : Int) then ((some (x5.take (x8 : Int).toNat : List Int)).bind fun y136 => (trunnionlaw13_RingFits.l1 k x5 x8 x9 y136 (y136.length : Int) 0)) else (none)) else (none))
def trunnionlaw13_RingFits.l1 : Nat → List Int → Int → Int → List Int → Int → Int → Option (Bool)
  | 0, _, _, _, _, _, _ => none
  | k + 1, x5, x8, x9, x62, x63, x64 => if x64 < x63 then (if 0 ≤ x64 then (if x64 < (x62.length : Int) then (trunnionlaw13_RingFits.l1 k x5 x8 (wrap64 (x9 + (rd x62 x64))) x62 x63 (wrap64 (x64 + 1))) else (none)) else (none)) else ((ring_Need.f x9).bind fun t141 => (if t141 ≤ 48 then (if x8 = (x5.length : Int) then (some true) else (if 0 ≤ x8 then (if x8 < (x5.length : Int) then ((ring_Need.f (wrap64 (x9 + (rd x5 x8)))).bind fun t143 => (some (decide (t143 > 48)))) else (none)) else (none))) else (some false)))
end
def trunnionlaw13_RingFits.f (k : Nat) (l0 : List Int) (a1 : Int) : Option (Bool) := (trunnionlaw13_wakes.f k).bind fun t126 => (if t126 = true then ((ring_Need.f ((mx 0 a1) % 97)).bind fun t127 => ((ring_Most.f).bind fun t128 => (if ((decide (t127 ≤ 48)) != (decide (((mx 0 a1) % 97) ≤ t128))) = true then (trunnionlaw13_RingFits.j0 k l0 true) else ((ring_Need.f ((mx 0 a1) % 97)).bind fun t129 => (trunnionlaw13_RingFits.j0 k l0 (decide (t129 < (((mx 0 a1) % 97) + 1)))))))) else (trunnionlaw13_RingFits.j0 k l0 true))
theorem trunnionlaw13_RingFits.mono_l : ∀ k, (∀ y0 y1, LeO (trunnionlaw13_RingFits.j0 k y0 y1) (trunnionlaw13_RingFits.j0 (k + 1) y0 y1)) ∧ (∀ y0 y1 y2 y3, LeO (trunnionlaw13_RingFits.l0 k y0 y1 y2 y3) (trunnionlaw13_RingFits.l0 (k + 1) y0 y1 y2 y3)) ∧ (∀ y0 y1 y2 y3, LeO (trunnionlaw13_RingFits.j2 k y0 y1 y2 y3) (trunnionlaw13_RingFits.j2 (k + 1) y0 y1 y2 y3)) ∧ (∀ y0 y1 y2 y3 y4 y5, LeO (trunnionlaw13_RingFits.l1 k y0 y1 y2 y3 y4 y5) (trunnionlaw13_RingFits.l1 (k + 1) y0 y1 y2 y3 y4 y5))
  | 0 => ⟨fun _ _ r h => by simp [trunnionlaw13_RingFits.j0] at h, fun _ _ _ _ r h => by simp [trunnionlaw13_RingFits.l0] at h, fun _ _ _ _ r h => by simp [trunnionlaw13_RingFits.j2] at h, fun _ _ _ _ _ _ r h => by simp [trunnionlaw13_RingFits.l1] at h⟩
  | k + 1 => by
    obtain ⟨ih0, ih1, ih2, ih3⟩ := trunnionlaw13_RingFits.mono_l k
    refine ⟨?_, ?_, ?_, ?_⟩
    · intro y0 y1
      unfold trunnionlaw13_RingFits.j0
      repeat' first
      | (with_reducible exact ih0 _ _)
      | (with_reducible exact ih1 _ _ _ _)
      | (with_reducible exact ih2 _ _ _ _)
      | (with_reducible exact ih3 _ _ _ _ _ _)
      | (with_reducible exact trunnionlaw13_wakes.mono _)
      | (with_reducible exact LeO.refl _)
      | (with_reducible exact LeO.none _)
      | (with_reducible refine LeO.ite ?_ ?_)
      | (with_reducible refine LeO.bind ?_ (fun _ => ?_))
      | exact ih0 _ _
      | exact ih1 _ _ _ _
      | exact ih2 _ _ _ _
      | exact ih3 _ _ _ _ _ _
      | exact trunnionlaw13_wakes.mono _
      | exact LeO.none _
      | refine LeO.ite ?_ ?_
      | refine LeO.bind ?_ (fun _ => ?_)
    · intro y0 y1 y2 y3
      unfold trunnionlaw13_RingFits.l0
      repeat' first
      | (with_reducible exact ih0 _ _)
      | (with_reducible exact ih1 _ _ _ _)
      | (with_reducible exact ih2 _ _ _ _)
      | (with_reducible exact ih3 _ _ _ _ _ _)
      | (with_reducible exact trunnionlaw13_wakes.mono _)
      | (with_reducible exact LeO.refl _)
      | (with_reducible exact LeO.none _)
      | (with_reducible refine LeO.ite ?_ ?_)
      | (with_reducible refine LeO.bind ?_ (fun _ => ?_))
      | exact ih0 _ _
      | exact ih1 _ _ _ _
      | exact ih2 _ _ _ _
      | exact ih3 _ _ _ _ _ _
      | exact trunnionlaw13_wakes.mono _
      | exact LeO.none _
      | refine LeO.ite ?_ ?_
      | refine LeO.bind ?_ (fun _ => ?_)
    · intro y0 y1 y2 y3
      unfold trunnionlaw13_RingFits.j2
      repeat' first
      | (with_reducible exact ih0 _ _)
      | (with_reducible exact ih1 _ _ _ _)
      | (with_reducible exact ih2 _ _ _ _)
      | (with_reducible exact ih3 _ _ _ _ _ _)
      | (with_reducible exact trunnionlaw13_wakes.mono _)
      | (with_reducible exact LeO.refl _)
      | (with_reducible exact LeO.none _)
      | (with_reducible refine LeO.ite ?_ ?_)
      | (with_reducible refine LeO.bind ?_ (fun _ => ?_))
      | exact ih0 _ _
      | exact ih1 _ _ _ _
      | exact ih2 _ _ _ _
      | exact ih3 _ _ _ _ _ _
      | exact trunnionlaw13_wakes.mono _
      | exact LeO.none _
      | refine LeO.ite ?_ ?_
      | refine LeO.bind ?_ (fun _ => ?_)
    · intro y0 y1 y2 y3 y4 y5
      unfold trunnionlaw13_RingFits.l1
      repeat' first
      | (with_reducible exact ih0 _ _)
      | (with_reducible exact ih1 _ _ _ _)
      | (with_reducible exact ih2 _ _ _ _)
      | (with_reducible exact ih3 _ _ _ _ _ _)
      | (with_reducible exact trunnionlaw13_wakes.mono _)
      | (with_reducible exact LeO.refl _)
      | (with_reducible exact LeO.none _)
      | (with_reducible refine LeO.ite ?_ ?_)
      | (with_reducible refine LeO.bind ?_ (fun _ => ?_))
      | exact ih0 _ _
      | exact ih1 _ _ _ _
      | exact ih2 _ _ _ _
      | exact ih3 _ _ _ _ _ _
      | exact trunnionlaw13_wakes.mono _
      | exact LeO.none _
      | refine LeO.ite ?_ ?_
      | refine LeO.bind ?_ (fun _ => ?_)
theorem trunnionlaw13_RingFits.mono : ∀ a0 a1 k, LeO (trunnionlaw13_RingFits.f k a0 a1) (trunnionlaw13_RingFits.f (k + 1) a0 a1) := by
  intro a0 a1 k
  obtain ⟨ih0, ih1, ih2, ih3⟩ := trunnionlaw13_RingFits.mono_l k
  unfold trunnionlaw13_RingFits.f
  repeat' first
      | (with_reducible exact ih0 _ _)
      | (with_reducible exact ih1 _ _ _ _)
      | (with_reducible exact ih2 _ _ _ _)
      | (with_reducible exact ih3 _ _ _ _ _ _)
      | (with_reducible exact trunnionlaw13_wakes.mono _)
      | (with_reducible exact LeO.refl _)
      | (with_reducible exact LeO.none _)
      | (with_reducible refine LeO.ite ?_ ?_)
      | (with_reducible refine LeO.bind ?_ (fun _ => ?_))
      | exact ih0 _ _
      | exact ih1 _ _ _ _
      | exact ih2 _ _ _ _
      | exact ih3 _ _ _ _ _ _
      | exact trunnionlaw13_wakes.mono _
      | exact LeO.none _
      | refine LeO.ite ?_ ?_
      | refine LeO.bind ?_ (fun _ => ?_)
set_option maxHeartbeats 8000000 in
set_option maxRecDepth 100000 in
theorem trunnionlaw13_RingFits.calls (k : Nat) (A0 : Option Addr) (c0 : Nat) (l0 : List Int) (a1 : Int) (r : Bool) (w : World) (hr0 : Kd.C (Kd.int .i64) w A0 l0.length l0) (hc0 : l0.length ≤ c0) (h : trunnionlaw13_RingFits.f k l0 a1 = some r) :
    Calls Try.prog 8 #[.slice A0 l0.length c0, .int .i64 a1] w fun e w' => e = .returned (.bool r) ∧ Below w.heap.size w w' := by
  have HR0 := Aside0.mk hr0
  have HC0 := Aside0.mk hc0
  clear hr0 hc0
  have HB := Aside0.mk (Below.refl w.heap.size w)
  have H : ((trunnionlaw13_wakes.f k).bind fun t126 => (if t126 = true then ((ring_Need.f ((mx 0 a1) % 97)).bind fun t127 => ((ring_Most.f).bind fun t128 => (if ((decide (t127 ≤ 48)) != (decide (((mx 0 a1) % 97) ≤ t128))) = true then (trunnionlaw13_RingFits.j0 k l0 true) else ((ring_Need.f ((mx 0 a1) % 97)).bind fun t129 => (trunnionlaw13_RingFits.j0 k l0 (decide (t129 < (((mx 0 a1) % 97) + 1)))))))) else (trunnionlaw13_RingFits.j0 k l0 true))) = some r := h
  clear h
  obtain ⟨ji3, hji3⟩ : ∃ j_ : Int, (mx 0 a1) = j_ := ⟨_, rfl⟩
  replace H : ((trunnionlaw13_wakes.f k).bind fun t126 => (if t126 = true then ((ring_Need.f ((ji3) % 97)).bind fun t127 => ((ring_Most.f).bind fun t128 => (if ((decide (t127 ≤ 48)) != (decide (((ji3) % 97) ≤ t128))) = true then (trunnionlaw13_RingFits.j0 k l0 true) else ((ring_Need.f ((ji3) % 97)).bind fun t129 => (trunnionlaw13_RingFits.j0 k l0 (decide (t129 < (((ji3) % 97) + 1)))))))) else (trunnionlaw13_RingFits.j0 k l0 true))) = some r := by first | (rw [hji3] at H; exact H) | (simp only [hji3] at H ⊢; exact H)
  (try (have hji3l : 0 ≤ ji3 := by (rw [← hji3]; unfold mx; (repeat' split) <;> omega)))
  (try (have hji3m : 0 ≤ ji3 := by omega))
  have hji3_ : (if 0 < a1 then a1 else 0) = ji3 := hji3
  have HC4 := Aside0.mk H
  clear H
  go_enter Try.func8, Try.ntmps8
  go_upto_region 2 with (fail)
  go_cut [32] (fun v32 wc => ∃ (kq : Nat) (x32_3 : Bool), v32 = .bool x32_3 ∧ Aside0 (trunnionlaw13_RingFits.j0 kq l0 x32_3 = some r) ∧ Aside0 (kq ≤ k) ∧ Aside0 (Below w.heap.size w wc))
  case first =>
    have H := HC4.out
    clear HC4
    replace H := Option.bind_eq_some_iff.mp H
    obtain ⟨t126, A50, H⟩ := H
    replace H : (if t126 = true then ((ring_Need.f ((ji3) % 97)).bind fun t127 => ((ring_Most.f).bind fun t128 => (if ((decide (t127 ≤ 48)) != (decide (((ji3) % 97) ≤ t128))) = true then (trunnionlaw13_RingFits.j0 k l0 true) else ((ring_Need.f ((ji3) % 97)).bind fun t129 => (trunnionlaw13_RingFits.j0 k l0 (decide (t129 < (((ji3) % 97) + 1)))))))) else (trunnionlaw13_RingFits.j0 k l0 true)) = some r := H
    have A5 := Aside0.mk A50
    clear A50
    by_cases c6 : t126 = true
    · subst c6
      have H1 : ((ring_Need.f ((ji3) % 97)).bind fun t127 => ((ring_Most.f).bind fun t128 => (if ((decide (t127 ≤ 48)) != (decide (((ji3) % 97) ≤ t128))) = true then (trunnionlaw13_RingFits.j0 k l0 true) else ((ring_Need.f ((ji3) % 97)).bind fun t129 => (trunnionlaw13_RingFits.j0 k l0 (decide (t129 < (((ji3) % 97) + 1)))))))) = some r := by rw [if_pos rfl] at H; exact H
      clear H
      have H := H1
      clear H1
      replace H := Option.bind_eq_some_iff.mp H
      obtain ⟨t127, A70, H⟩ := H
      replace H : ((ring_Most.f).bind fun t128 => (if ((decide (t127 ≤ 48)) != (decide (((ji3) % 97) ≤ t128))) = true then (trunnionlaw13_RingFits.j0 k l0 true) else ((ring_Need.f ((ji3) % 97)).bind fun t129 => (trunnionlaw13_RingFits.j0 k l0 (decide (t129 < (((ji3) % 97) + 1))))))) = some r := H
      have A7 := Aside0.mk A70
      clear A70
      replace H := Option.bind_eq_some_iff.mp H
      obtain ⟨t128, A80, H⟩ := H
      replace H : (if ((decide (t127 ≤ 48)) != (decide (((ji3) % 97) ≤ t128))) = true then (trunnionlaw13_RingFits.j0 k l0 true) else ((ring_Need.f ((ji3) % 97)).bind fun t129 => (trunnionlaw13_RingFits.j0 k l0 (decide (t129 < (((ji3) % 97) + 1)))))) = some r := H
      have A8 := Aside0.mk A80
      clear A80
      by_cases c9 : ((decide (t127 ≤ 48)) != (decide (((ji3) % 97) ≤ t128))) = true
      · rw [if_pos c9] at H
        have c9b0 : ((decide (t127 ≤ 48)) != (decide (((ji3) % 97) ≤ t128))) = true := c9
        (try (have c9b1 : decide ((decide (t127 ≤ 48)) = (decide (((ji3) % 97) ≤ t128))) = false := by simpa using c9))
        (try (have c9b2 : ((decide (t127 ≤ 48)) == (decide (((ji3) % 97) ≤ t128))) = false := by simpa using c9))
        (try (have c9b3 : ¬ ((decide (t127 ≤ 48)) = (decide (((ji3) % 97) ≤ t128))) := by simpa using c9))
        clear c9
        (first | rw [c9b0] | (simp only [i64_w, i32_w]; rw [c9b0]) | skip)
        have H' := Aside0.mk H
        clear H
        go_wp2_with (first | ((with_reducible refine gate_callee (f := 18) rfl ?_); refine goesL_ (some 15) rfl rfl Try.func18 (by kernel_rfl) rfl #[] rfl (by (try simp only [List.map_toArray, List.map_cons, List.map_nil]); first | done | rfl | (simp only [List.length_drop, List.length_take]; rfl)) ?_; (with_reducible refine (trunnionlaw13_wakes.calls k  true _ A5.out).mono ?_); rintro e w10 ⟨rfl, hb⟩; refine ⟨_, rfl, ?_⟩; have n0_ := Aside0.mk (below_step (by repeat (first | (with_reducible first | exact HB.out | apply below_alloc | apply pw_below_drewN | apply below_drew1) | exact HB.out)) hb); clear HB; have HB := n0_; clear n0_; (try clear hb); (try clear hb2); (try clear hk); (try clear hi)) | (go_at_call 16; (with_reducible refine (ring_Need.calls ((ji3) % 97) t127 _ A7.out).mono ?_); rintro e w' ⟨rfl, ⟨nd, rfl⟩⟩) | (go_at_call 19; (with_reducible refine (ring_Most.calls  t128 _ A8.out).mono ?_); rintro e w11 ⟨rfl, hb⟩; have n0_ := Aside0.mk (below_step (by repeat (first | (with_reducible first | exact HB.out | apply below_alloc | apply pw_below_drewN | apply below_drew1) | exact HB.out)) hb); clear HB; have HB := n0_; clear n0_; (try clear hb); (try clear hb2); (try clear hk); (try clear hi)))
        go_meet
        case rel => exact ⟨_, (true), (by first | rfl | (simp; done) | (simp [*]; done)), H', ⟨by first | omega | exact Nat.le_refl _⟩, ⟨by repeat (first | (with_reducible first | exact HB.out | apply below_alloc | apply pw_below_drewN | apply below_drew1) | exact HB.out)⟩⟩
      · rw [if_neg c9] at H
        have c9b0 : ((decide (t127 ≤ 48)) != (decide (((ji3) % 97) ≤ t128))) = false := by simpa using c9
        (try (have c9b1 : decide ((decide (t127 ≤ 48)) = (decide (((ji3) % 97) ≤ t128))) = true := by simpa using c9))
        (try (have c9b2 : ((decide (t127 ≤ 48)) == (decide (((ji3) % 97) ≤ t128))) = true := by simpa using c9))
        clear c9
        (first | rw [c9b0] | (simp only [i64_w, i32_w]; rw [c9b0]) | skip)
        replace H := Option.bind_eq_some_iff.mp H
        obtain ⟨t129, A120, H⟩ := H
        replace H : (trunnionlaw13_RingFits.j0 k l0 (decide (t129 < (((ji3) % 97) + 1)))) = some r := H
        have A12 := Aside0.mk A120
        clear A120
        obtain rfl : t127 = t129 := Option.some.inj (A7.out.symm.trans A12.out)
        have H' := Aside0.mk H
        clear H
        go_wp2_with (first | ((with_reducible refine gate_callee (f := 18) rfl ?_); refine goesL_ (some 15) rfl rfl Try.func18 (by kernel_rfl) rfl #[] rfl (by (try simp only [List.map_toArray, List.map_cons, List.map_nil]); first | done | rfl | (simp only [List.length_drop, List.length_take]; rfl)) ?_; (with_reducible refine (trunnionlaw13_wakes.calls k  true _ A5.out).mono ?_); rintro e w13 ⟨rfl, hb⟩; refine ⟨_, rfl, ?_⟩; have n0_ := Aside0.mk (below_step (by repeat (first | (with_reducible first | exact HB.out | apply below_alloc | apply pw_below_drewN | apply below_drew1) | exact HB.out)) hb); clear HB; have HB := n0_; clear n0_; (try clear hb); (try clear hb2); (try clear hk); (try clear hi)) | (go_at_call 16; (with_reducible refine (ring_Need.calls ((ji3) % 97) t127 _ A7.out).mono ?_); rintro e w' ⟨rfl, ⟨nd, rfl⟩⟩) | (go_at_call 19; (with_reducible refine (ring_Most.calls  t128 _ A8.out).mono ?_); rintro e w14 ⟨rfl, hb⟩; have n0_ := Aside0.mk (below_step (by repeat (first | (with_reducible first | exact HB.out | apply below_alloc | apply pw_below_drewN | apply below_drew1) | exact HB.out)) hb); clear HB; have HB := n0_; clear n0_; (try clear hb); (try clear hb2); (try clear hk); (try clear hi)) | (go_at_call 16; (with_reducible refine (ring_Need.calls ((ji3) % 97) t127 _ A12.out).mono ?_); rintro e w' ⟨rfl, ⟨nd, rfl⟩⟩))
        go_meet
        case rel => exact ⟨_, (decide (t127 < (((ji3) % 97) + 1))), (by first | rfl | (simp; done) | (simp only [← hji3] <;> (first | rfl | simp)) | (simp [*]; done)), H', ⟨by first | omega | exact Nat.le_refl _⟩, ⟨by repeat (first | (with_reducible first | exact HB.out | apply below_alloc | apply pw_below_drewN | apply below_drew1) | exact HB.out)⟩⟩
    · replace c6 := Bool.eq_false_iff.mpr c6
      subst c6
      have H1 : (trunnionlaw13_RingFits.j0 k l0 true) = some r := by rw [if_neg (show ¬ (false = true) by decide)] at H; exact H
      clear H
      have H := H1
      clear H1
      have H' := Aside0.mk H
      clear H
      go_wp2_with (first | ((with_reducible refine gate_callee (f := 18) rfl ?_); refine goesL_ (some 15) rfl rfl Try.func18 (by kernel_rfl) rfl #[] rfl (by (try simp only [List.map_toArray, List.map_cons, List.map_nil]); first | done | rfl | (simp only [List.length_drop, List.length_take]; rfl)) ?_; (with_reducible refine (trunnionlaw13_wakes.calls k  false _ A5.out).mono ?_); rintro e w15 ⟨rfl, hb⟩; refine ⟨_, rfl, ?_⟩; have n0_ := Aside0.mk (below_step (by repeat (first | (with_reducible first | exact HB.out | apply below_alloc | apply pw_below_drewN | apply below_drew1) | exact HB.out)) hb); clear HB; have HB := n0_; clear n0_; (try clear hb); (try clear hb2); (try clear hk); (try clear hi)))
      go_meet
      case rel => exact ⟨_, (true), (by first | rfl | (simp; done) | (simp [*]; done)), H', ⟨by first | omega | exact Nat.le_refl _⟩, ⟨by repeat (first | (with_reducible first | exact HB.out | apply below_alloc | apply pw_below_drewN | apply below_drew1) | exact HB.out)⟩⟩
  case rest =>
    clear HC4
    try clear c1
    try clear p2
    try clear c6
    try clear c8
    try clear c9
    try clear c9b0
    try clear c9b1
    try clear c9b2
    obtain ⟨kq, x32_3, rfl, HA, HJ3, HB⟩ := hcut
    cases kq with
    | zero => exact absurd HA.out (by simp [trunnionlaw13_RingFits.j0])
    | succ kj3 =>
      have H := HA.out
      clear HA
      simp only [trunnionlaw13_RingFits.j0] at H
      by_cases c16 : x32_3 = true
      · subst c16
        have H1 : (some false) = some r := by rw [if_pos rfl] at H; exact H
        clear H
        have H := H1
        clear H1
        obtain rfl := Option.some.inj H
        go_wp2
        go_ret
        exact ⟨by first | rfl | (simp [errW_none, errW_some] <;> rfl) | (simp only [← hji3]; first | rfl | (simp [errW_none, errW_some] <;> rfl)) | (simp [*, errW_none, errW_some] <;> rfl), by repeat (first | (with_reducible first | exact HB.out | apply below_alloc | apply pw_below_drewN | apply below_drew1) | exact HB.out)⟩
      · replace c16 := Bool.eq_false_iff.mpr c16
        subst c16
        have H1 : (if 0 ≤ (mn (l0.length : Int) 60) then (if (mn (l0.length : Int) 60) ≤ (l0.length : Int) then (trunnionlaw13_RingFits.l0 kj3 ([] : List Int) (l0.take ((mn (l0.length : Int) 60) : Int).toNat) ((l0.take ((mn (l0.length : Int) 60) : Int).toNat).length : Int) 0) else (none)) else (none)) = some r := by rw [if_neg (show ¬ (false = true) by decide)] at H; exact H
        clear H
        have H := H1
        clear H1
        obtain ⟨ji17, hji17⟩ : ∃ j_ : Int, (mn (l0.length : Int) 60) = j_ := ⟨_, rfl⟩
        replace H : (if 0 ≤ (ji17) then (if (ji17) ≤ (l0.length : Int) then (trunnionlaw13_RingFits.l0 kj3 ([] : List Int) (l0.take ((ji17) : Int).toNat) ((l0.take ((ji17) : Int).toNat).length : Int) 0) else (none)) else (none)) = some r := by first | (rw [hji17] at H; exact H) | (simp only [hji17] at H ⊢; exact H)
        have hji17_ : (if 60 < (l0.length : Int) then 60 else (l0.length : Int)) = ji17 := hji17
        by_cases c18 : 0 ≤ (ji17)
        · rw [if_pos c18] at H
          have c18b0 := eq_true c18
          have c18b1 : decide (0 ≤ (ji17)) = true := decide_eq_true c18
          clear c18
          by_cases c19 : (ji17) ≤ (l0.length : Int)
          · rw [if_pos c19] at H
            have c19b0 := eq_true c19
            have c19b1 : decide ((ji17) ≤ (l0.length : Int)) = true := decide_eq_true c19
            clear c19
            have H' := Aside0.mk H
            clear H
            obtain ⟨i020, hi020, _, hsz20, _⟩ := info_parts info3
            obtain ⟨hcut20, hA20, hC20⟩ := print_take_of (P := Try.prog) (Value.int .i64) 0 22 3 .i64 Try.underlying22 hi020 hsz20 A0 c0 l0 (ji17) (of_decide_eq_true (by first | (with_reducible assumption) | assumption)) (of_decide_eq_true (by first | (with_reducible assumption) | assumption)) HC0.out
            have HR130 := Aside0.mk (Kd.C_of_reads (h1 := fun _ => rfl) (hA20 _ (Kd.reads_of_C HR0.out)))
            have HC130 := Aside0.mk hC20
            clear hA20 hC20 hi020 hsz20
            go_wp2
            go_loopg [5, 39] kj3 (fun kq v5 v39 w' => ∃ (x5_2 : List Int) (x39_2 : Int), v39 = .int .i64 x39_2 ∧ Aside0 (trunnionlaw13_RingFits.l0 kq x5_2 (l0.take ((ji17) : Int).toNat) ((l0.take ((ji17) : Int).toNat).length : Int) x39_2 = some r) ∧ Aside0 (kq ≤ kj3) ∧ Aside0 (Kd.R (Kd.int .i64) 3 w' w.heap.size (fun _ => True) v5 x5_2) ∧ Aside0 (Below w.heap.size w w'))
            case atStart => exact ⟨(([] : List Int)), (0), (by first | rfl | (simp; done) | (simp [*]; done)), H', ⟨Nat.le_refl _⟩, ⟨by first | exact Kd.R_nil _ _ _ _ _ | exact Kd.N_nil _ _ _ _ _ | exact Kd.V_nil _ _ _ _ _ | exact Kd.Q_nil _ _ _ _ _ | exact Kd.S_nil _ _ _ _ _⟩, ⟨by repeat (first | (with_reducible first | exact HB.out | apply below_alloc | apply pw_below_drewN | apply below_drew1) | exact HB.out)⟩⟩
            case round =>
              clear H'
              try clear c1
              try clear p2
              try clear c6
              try clear c8
              try clear c9
              try clear c9b0
              try clear c9b1
              try clear c9b2
              try clear c16
              try clear c18
              try clear c18b0
              try clear c18b1
              try clear c19
              try clear c19b0
              try clear c19b1
              try clear p2
              obtain ⟨x5_2, x39_2, rfl, HA, HK2, HO_5, HB⟩ := hrel
              cases gk with
              | zero => exact absurd HA.out (by simp [trunnionlaw13_RingFits.l0])
              | succ k2 =>
                have H := HA.out
                clear HA
                simp only [trunnionlaw13_RingFits.l0] at H
                by_cases c21 : x39_2 < ((l0.take ((ji17) : Int).toNat).length : Int)
                · rw [if_pos c21] at H
                  have c21b0 : decide (x39_2 < ((l0.take ((ji17) : Int).toNat).length : Int)) = true := decide_eq_true c21
                  have c21z : decide (x39_2 < max ji17 0) = true := by have h_ := of_decide_eq_true c21b0; have g_ := hji17; unfold mn at g_; rw [List.length_take] at h_; apply decide_eq_true; omega
                  have c21y : (x39_2 < max ji17 0) = True := eq_true (of_decide_eq_true c21z)
                  clear c21
                  by_cases c22 : 0 ≤ x39_2
                  · rw [if_pos c22] at H
                    have c22b0 : decide (0 ≤ x39_2) = true := decide_eq_true c22
                    clear c22
                    by_cases c23 : x39_2 < ((l0.take ((ji17) : Int).toNat).length : Int)
                    · rw [if_pos c23] at H
                      have c23b0 : decide (x39_2 < ((l0.take ((ji17) : Int).toNat).length : Int)) = true := decide_eq_true c23
                      have c23z : decide (x39_2 < max ji17 0) = true := by have h_ := of_decide_eq_true c23b0; have g_ := hji17; unfold mn at g_; rw [List.length_take] at h_; apply decide_eq_true; omega
                      have c23y : (x39_2 < max ji17 0) = True := eq_true (of_decide_eq_true c23z)
                      clear c23
                      obtain ⟨ji24, hji24⟩ : ∃ j_ : Int, (mx 0 (rd (l0.take ((ji17) : Int).toNat) x39_2)) = j_ := ⟨_, rfl⟩
                      replace H : (if x5_2.length < 17592186044416 then (trunnionlaw13_RingFits.l0 k2 (x5_2 ++ [(ji24) % 40]) (l0.take ((ji17) : Int).toNat) ((l0.take ((ji17) : Int).toNat).length : Int) (wrap64 (x39_2 + 1))) else (none)) = some r := by first | (rw [hji24] at H; exact H) | (simp only [hji24] at H ⊢; exact H)
                      have hji24_ : (if 0 < (rd (l0.take ((ji17) : Int).toNat) x39_2) then (rd (l0.take ((ji17) : Int).toNat) x39_2) else 0) = ji24 := hji24
                      by_cases c25 : x5_2.length < 17592186044416
                      · rw [if_pos c25] at H
                        have LMc25 := Aside0.mk c25
                        clear c25
                        obtain ⟨y132, hy132⟩ : ∃ y_ : List Int, y_ = (x5_2 ++ [(ji24) % 40]) := ⟨_, rfl⟩
                        replace H : (trunnionlaw13_RingFits.l0 k2 y132 (l0.take ((ji17) : Int).toNat) ((l0.take ((ji17) : Int).toNat).length : Int) (wrap64 (x39_2 + 1))) = some r := by first | (rw [hy132]; with_reducible exact H) | (have H2_ := (Option.bind_some _ _).symm.trans H; rw [hy132]; with_reducible exact H2_) | (have H2_ := (Option.bind_some _ _).symm.trans H; with_reducible exact H2_) | with_reducible exact H | (rw [hy132]; exact H) | exact H
                        have Ny132 := Aside0.mk hy132
                        clear hy132
                        have H' := Aside0.mk H
                        clear H
                        have p131 : 0 ≤ (x39_2 : Int) := of_decide_eq_true (by first | (with_reducible assumption) | assumption)
                        have q131 : x39_2 < ((l0.take ((ji17) : Int).toNat).length : Int) := of_decide_eq_true (by first | (with_reducible assumption) | assumption)
                        obtain ⟨ad131, e131, hx131_0⟩ := Kd.at_int HR130.out x39_2 p131 q131
                        cases e131
                        try (replace hx131_0 := (HB.out.cell (World.block_lt_of_cell? w _ hx131_0)).trans hx131_0)
                        replace p131 := eq_true p131
                        replace q131 := eq_true q131
                        go_wp2_with (first | ((with_reducible refine gate_builtin (b := .append) (xs := #[.tmp 43, .tmp 47]) rfl ?_); (try (refine gate_guard (by rfl) ?_; dsimp only)); at_builtin; refine Kd.R_append (Kd.int .i64) (w0 := w) w.heap.size rfl (.tmp 43) (.tmp 47) 22 3 (.int .i64 0) 8 rfl Try.underlying22 info3 rfl (by decide) (by omega) u5 x5_2 ((ji24) % 40) [.int .i64 ((ji24) % 40)] (fun _ => True) (fun _ => False) rfl rfl ?aP (fun _ hk => hk.elim) ?aF ?aO ?aB ?aS ?aL ?_; (case aP => exact rfl); (case aB => exact (by repeat (first | (with_reducible first | exact HB.out | apply below_alloc | apply pw_below_drewN | apply below_drew1) | exact HB.out))); (case aF => exact (fun _ _ => trivial)); (case aO => exact (by (with_reducible repeat (first | apply Kd.R_alloc | apply Kd.R_drewN | apply Kd.R_drew)); exact HO_5.out)); (case aS => exact (below_size (by repeat (first | (with_reducible first | exact HB.out | apply below_alloc | apply pw_below_drewN | apply below_drew1) | exact HB.out)))); (case aL => have := LMc25.out; omega); intro v133 w26 ho hb hg hat; rw [← Ny132.out] at ho; have n0_ := Aside0.mk (hb); have n1_ := Aside0.mk (ho); clear HB; clear HO_5; have HB := n0_; have HO134 := n1_; clear n0_ n1_; clear ho hb hg hat))
                        go_roundg k2
                        case measure => have := HJ3.out; have := HK2.out; omega
                        case rel => exact ⟨(y132), (wrap64 (x39_2 + 1)), (by first | rfl | (simp; done) | (simp [*]; done)), H', ⟨by have := HJ3.out; have := HK2.out; omega⟩, ⟨by (with_reducible repeat (first | apply Kd.R_alloc | apply Kd.R_drewN | apply Kd.R_drew)); exact HO134.out⟩, ⟨by repeat (first | (with_reducible first | exact HB.out | apply below_alloc | apply pw_below_drewN | apply below_drew1) | exact HB.out)⟩⟩
                      · rw [if_neg c25] at H
                        exact absurd H (by simp)
                    · rw [if_neg c23] at H
                      exact absurd H (by simp)
                  · rw [if_neg c22] at H
                    exact absurd H (by simp)
                · rw [if_neg c21] at H
                  have c21b0 : decide (x39_2 < ((l0.take ((ji17) : Int).toNat).length : Int)) = false := decide_eq_false c21
                  have c21z : decide (x39_2 < max ji17 0) = false := by have h_ := of_decide_eq_false c21b0; have g_ := hji17; unfold mn at g_; rw [List.length_take] at h_; apply decide_eq_false; omega
                  clear c21
                  replace H := Option.bind_eq_some_iff.mp H
                  obtain ⟨t135, A270, H⟩ := H
                  replace H : (if t135 < 0 then (trunnionlaw13_RingFits.j2 k2 x5_2 t135 0 true) else (trunnionlaw13_RingFits.j2 k2 x5_2 t135 0 (decide (t135 > (x5_2.length : Int))))) = some r := H
                  have A27 := Aside0.mk A270
                  clear A270
                  have HC28 := Aside0.mk H
                  clear H
                  obtain ⟨Ao29, co29, eo29⟩ := Kd.R_slice HO_5.out
                  subst eo29
                  go_upto_region 11 with (first | ((with_reducible refine gate_callee (f := 30) rfl ?_); refine goesL_ (some 51) rfl rfl Try.func30 (by kernel_rfl) rfl #[.slice Ao29 x5_2.length co29] rfl (by (try simp only [List.map_toArray, List.map_cons, List.map_nil]); first | done | rfl | (simp only [List.length_drop, List.length_take]; rfl)) ?_; (with_reducible refine (ring_Pack.calls _ _ x5_2 t135 _ ?side1 ?side2 A27.out).mono ?_); (case side1 => repeat (first | exact (Kd.R_reads' HO_5.out).2.2 | (with_reducible refine Kd.C_alloc ?_ _) | (with_reducible refine Kd.C_drewN ?_ _) | (with_reducible refine Kd.C_drew ?_))); (case side2 => exact (Kd.R_reads' HO_5.out).2.1); rintro e w30 ⟨rfl, hb⟩; refine ⟨_, rfl, ?_⟩; have n0_ := Aside0.mk (Kd.R_below (by (with_reducible repeat (first | apply Kd.R_alloc | apply Kd.R_drewN | apply Kd.R_drew)); exact HO_5.out) hb); have n1_ := Aside0.mk (below_step (by repeat (first | (with_reducible first | exact HB.out | apply below_alloc | apply pw_below_drewN | apply below_drew1) | exact HB.out)) hb); clear HO_5; clear HB; have HO_5 := n0_; have HB := n1_; clear n0_ n1_; (try clear hb); (try clear hb2); (try clear hk); (try clear hi)))
                  (try simp only [Act.put, List.setIfInBounds_toArray, List.set_cons_zero, List.set_cons_succ])
                  go_cut [59] (fun v59 wc => ∃ (kq : Nat) (x59_27 : Bool), v59 = .bool x59_27 ∧ Aside0 (trunnionlaw13_RingFits.j2 kq x5_2 t135 0 x59_27 = some r) ∧ Aside0 (kq ≤ k2) ∧ Aside0 (Kd.R (Kd.int .i64) 3 wc w.heap.size (fun _ => True) (.slice Ao29 x5_2.length co29) x5_2) ∧ Aside0 (Below w.heap.size w wc))
                  case first =>
                    have H := HC28.out
                    clear HC28
                    by_cases c31 : t135 < 0
                    · rw [if_pos c31] at H
                      have c31b0 : decide (t135 < 0) = true := decide_eq_true c31
                      clear c31
                      (first | rw [c31b0] | (simp only [i64_w, i32_w]; rw [c31b0]) | skip)
                      have H' := Aside0.mk H
                      clear H
                      go_wp2
                      go_meet
                      case rel => exact ⟨_, (true), (by first | rfl | (simp; done) | (simp [*]; done)), H', ⟨by have := HJ3.out; have := HK2.out; first | omega | exact Nat.le_refl _⟩, ⟨by (with_reducible repeat (first | apply Kd.R_alloc | apply Kd.R_drewN | apply Kd.R_drew)); exact HO_5.out⟩, ⟨by repeat (first | (with_reducible first | exact HB.out | apply below_alloc | apply pw_below_drewN | apply below_drew1) | exact HB.out)⟩⟩
                    · rw [if_neg c31] at H
                      have c31b0 : decide (t135 < 0) = false := decide_eq_false c31
                      clear c31
                      (first | rw [c31b0] | (simp only [i64_w, i32_w]; rw [c31b0]) | skip)
                      have H' := Aside0.mk H
                      clear H
                      go_wp2
                      go_meet
                      case rel => exact ⟨_, (decide (t135 > (x5_2.length : Int))), (by first | rfl | (simp; done) | (simp [*]; done)), H', ⟨by have := HJ3.out; have := HK2.out; first | omega | exact Nat.le_refl _⟩, ⟨by (with_reducible repeat (first | apply Kd.R_alloc | apply Kd.R_drewN | apply Kd.R_drew)); exact HO_5.out⟩, ⟨by repeat (first | (with_reducible first | exact HB.out | apply below_alloc | apply pw_below_drewN | apply below_drew1) | exact HB.out)⟩⟩
                  case rest =>
                    clear HC28
                    try clear c1
                    try clear p1
                    try clear q1
                    try clear hx1
                    try clear c2
                    try clear p2
                    try clear c3
                    try clear c6
                    try clear p6
                    try clear c8
                    try clear c9
                    try clear c9b0
                    try clear c9b1
                    try clear c9b2
                    try clear p13
                    try clear q13
                    try clear hx13
                    try clear c16
                    try clear c18
                    try clear c18b0
                    try clear c18b1
                    try clear c19
                    try clear c19b0
                    try clear c19b1
                    try clear c21
                    try clear c21b0
                    try clear c22
                    try clear c22b0
                    try clear c23
                    try clear c23b0
                    try clear c25
                    try clear c30
                    try clear c31
                    try clear c31b0
                    try clear hx131_0
                    try clear p131
                    try clear p2
                    try clear q131
                    obtain ⟨kq, x59_27, rfl, HA, HJ27, HO_5, HB⟩ := hcut
                    cases kq with
                    | zero => exact absurd HA.out (by simp [trunnionlaw13_RingFits.j2])
                    | succ kj27 =>
                      have H := HA.out
                      clear HA
                      simp only [trunnionlaw13_RingFits.j2] at H
                      by_cases c32 : x59_27 = true
                      · subst c32
                        have H1 : (some false) = some r := by rw [if_pos rfl] at H; exact H
                        clear H
                        have H := H1
                        clear H1
                        obtain rfl := Option.some.inj H
                        go_wp2
                        go_ret
                        exact ⟨by first | rfl | (simp [errW_none, errW_some] <;> rfl) | (simp only [← hji3, ← hji17]; first | rfl | (simp [errW_none, errW_some] <;> rfl)) | (simp [*, errW_none, errW_some] <;> rfl), by repeat (first | (with_reducible first | exact HB.out | apply below_alloc | apply pw_below_drewN | apply below_drew1) | exact HB.out)⟩
                      · replace c32 := Bool.eq_false_iff.mpr c32
                        subst c32
                        have H1 : (if 0 ≤ t135 then (if t135 ≤ (x5_2.length : Int) then ((some (x5_2.take (t135 : Int).toNat : List Int)).bind fun y136 => (trunnionlaw13_RingFits.l1 kj27 x5_2 t135 0 y136 (y136.length : Int) 0)) else (none)) else (none)) = some r := by rw [if_neg (show ¬ (false = true) by decide)] at H; exact H
                        clear H
                        have H := H1
                        clear H1
                        by_cases c33 : 0 ≤ t135
                        · rw [if_pos c33] at H
                          have c33b0 := eq_true c33
                          have c33b1 : decide (0 ≤ t135) = true := decide_eq_true c33
                          clear c33
                          by_cases c34 : t135 ≤ (x5_2.length : Int)
                          · rw [if_pos c34] at H
                            have c34b0 := eq_true c34
                            have c34b1 : decide (t135 ≤ (x5_2.length : Int)) = true := decide_eq_true c34
                            clear c34
                            obtain ⟨y136, hy136⟩ : ∃ y_ : List Int, y_ = (x5_2.take (t135 : Int).toNat) := ⟨_, rfl⟩
                            replace H : (trunnionlaw13_RingFits.l1 kj27 x5_2 t135 0 y136 (y136.length : Int) 0) = some r := by first | (rw [hy136]; with_reducible exact H) | (have H2_ := (Option.bind_some _ _).symm.trans H; rw [hy136]; with_reducible exact H2_) | (have H2_ := (Option.bind_some _ _).symm.trans H; with_reducible exact H2_) | with_reducible exact H | (rw [hy136]; exact H) | exact H
                            have Ny136 := Aside0.mk hy136
                            clear hy136
                            have H' := Aside0.mk H
                            clear H
                            have q35 : (t135 : Int) ≤ ((x5_2.length : Int) : Int) := of_decide_eq_true (by first | (with_reducible assumption) | assumption)
                            obtain ⟨i035, hi035, _, hsz35, _⟩ := info_parts info3
                            have hroom35 : x5_2.length ≤ co29 := (Kd.R_reads' HO_5.out).2.1
                            have hC35 : Kd.C (Kd.int .i64) _ Ao29 x5_2.length x5_2 := (Kd.R_reads' HO_5.out).2.2
                            have hcut35 := cut_to (P := Try.prog) 22 3 .i64 Try.underlying22 hi035 Ao29 x5_2.length co29 t135 (of_decide_eq_true (by first | (with_reducible assumption) | assumption)) q35 hroom35
                            have hr35 := Kd.C_take (m := (t135 : Int).toNat) hC35 (by omega)
                            have hy35 : y136.length = (t135 : Int).toNat := (by rw [Ny136.out, List.length_take]; omega)
                            rw [← Ny136.out] at hr35
                            rw [← hy35] at hcut35
                            have HR139 := Aside0.mk hr35
                            have HC139 := Aside0.mk (show y136.length ≤ co29 from by omega)
                            clear hr35 hC35 hroom35 hi035 hsz35
                            have KY35 := Aside0.mk hy35
                            clear hy35
                            have KL35 := Aside0.mk (show (t135 : Int).toNat ≤ x5_2.length from by omega)
                            replace q35 := eq_true q35
                            go_wp2
                            go_loopg [9, 64] kj27 (fun kq v9 v64 w' => ∃ (x9_4 : Int) (x64_4 : Int), v9 = .int .i64 x9_4 ∧ v64 = .int .i64 x64_4 ∧ Aside0 (trunnionlaw13_RingFits.l1 kq x5_2 t135 x9_4 y136 (y136.length : Int) x64_4 = some r) ∧ Aside0 (kq ≤ kj27) ∧ Aside0 (Kd.R (Kd.int .i64) 3 w' w.heap.size (fun _ => True) (.slice Ao29 x5_2.length co29) x5_2) ∧ Aside0 (Kd.C (Kd.int .i64) w' Ao29 y136.length y136) ∧ Aside0 (Below w.heap.size w w'))
                            case atStart => exact ⟨(0), (0), (by first | rfl | (simp; done) | (simp [*]; done)), (by first | rfl | (simp; done) | (simp [*]; done)), H', ⟨Nat.le_refl _⟩, ⟨by (with_reducible repeat (first | apply Kd.R_alloc | apply Kd.R_drewN | apply Kd.R_drew)); exact HO_5.out⟩, ⟨by repeat (first | (with_reducible exact HR139.out) | (with_reducible refine Kd.C_alloc ?_ _) | (with_reducible refine Kd.C_drewN ?_ _) | (with_reducible refine Kd.C_drew ?_) | exact HR139.out)⟩, ⟨by repeat (first | (with_reducible first | exact HB.out | apply below_alloc | apply pw_below_drewN | apply below_drew1) | exact HB.out)⟩⟩
                            case round =>
                              clear H'
                              try clear c1
                              try clear p1
                              try clear q1
                              try clear hx1
                              try clear c2
                              try clear p2
                              try clear c3
                              try clear q3
                              try clear c6
                              try clear p6
                              try clear c8
                              try clear c9
                              try clear c9b0
                              try clear c9b1
                              try clear c9b2
                              try clear p13
                              try clear q13
                              try clear hx13
                              try clear c16
                              try clear c18
                              try clear c18b0
                              try clear c18b1
                              try clear c19
                              try clear c19b0
                              try clear c19b1
                              try clear c21
                              try clear c21b0
                              try clear c22
                              try clear c22b0
                              try clear c23
                              try clear c23b0
                              try clear c25
                              try clear c30
                              try clear c31
                              try clear c31b0
                              try clear c32
                              try clear c33
                              try clear c33b0
                              try clear c33b1
                              try clear c34
                              try clear c34b0
                              try clear c34b1
                              try clear q35
                              try clear hx131_0
                              try clear p1
                              try clear p13
                              try clear p131
                              try clear p2
                              try clear p6
                              try clear q1
                              try clear q13
                              try clear q131
                              try clear q35
                              obtain ⟨x9_4, x64_4, rfl, rfl, HA, HK4, HO_5, HR139, HB⟩ := hrel
                              cases gk with
                              | zero => exact absurd HA.out (by simp [trunnionlaw13_RingFits.l1])
                              | succ k4 =>
                                have H := HA.out
                                clear HA
                                simp only [trunnionlaw13_RingFits.l1] at H
                                by_cases c36 : x64_4 < (y136.length : Int)
                                · rw [if_pos c36] at H
                                  have c36b0 : decide (x64_4 < (y136.length : Int)) = true := decide_eq_true c36
                                  clear c36
                                  by_cases c37 : 0 ≤ x64_4
                                  · rw [if_pos c37] at H
                                    have c37b0 : decide (0 ≤ x64_4) = true := decide_eq_true c37
                                    clear c37
                                    by_cases c38 : x64_4 < (y136.length : Int)
                                    · rw [if_pos c38] at H
                                      have c38b0 : decide (x64_4 < (y136.length : Int)) = true := decide_eq_true c38
                                      clear c38
                                      have H' := Aside0.mk H
                                      clear H
                                      have p140 : 0 ≤ (x64_4 : Int) := of_decide_eq_true (by first | (with_reducible assumption) | assumption)
                                      have q140 : x64_4 < (y136.length : Int) := of_decide_eq_true (by first | (with_reducible assumption) | assumption)
                                      obtain ⟨ad140, e140, hx140_0⟩ := Kd.at_int HR139.out x64_4 p140 q140
                                      cases e140
                                      try (replace hx140_0 := (HB.out.cell (World.block_lt_of_cell? w _ hx140_0)).trans hx140_0)
                                      replace p140 := eq_true p140
                                      replace q140 := eq_true q140
                                      go_wp2
                                      go_roundg k4
                                      case measure => have := HJ3.out; have := HK2.out; have := HJ27.out; have := HK4.out; omega
                                      case rel => exact ⟨(wrap64 (x9_4 + (rd y136 x64_4))), (wrap64 (x64_4 + 1)), (by first | rfl | (simp; done) | (simp [*]; done)), (by first | rfl | (simp; done) | (simp [*]; done)), H', ⟨by have := HJ3.out; have := HK2.out; have := HJ27.out; have := HK4.out; omega⟩, ⟨by (with_reducible repeat (first | apply Kd.R_alloc | apply Kd.R_drewN | apply Kd.R_drew)); exact HO_5.out⟩, ⟨by repeat (first | (with_reducible exact HR139.out) | (with_reducible refine Kd.C_alloc ?_ _) | (with_reducible refine Kd.C_drewN ?_ _) | (with_reducible refine Kd.C_drew ?_) | exact HR139.out)⟩, ⟨by repeat (first | (with_reducible first | exact HB.out | apply below_alloc | apply pw_below_drewN | apply below_drew1) | exact HB.out)⟩⟩
                                    · rw [if_neg c38] at H
                                      exact absurd H (by simp)
                                  · rw [if_neg c37] at H
                                    exact absurd H (by simp)
                                · rw [if_neg c36] at H
                                  have c36b0 : decide (x64_4 < (y136.length : Int)) = false := decide_eq_false c36
                                  clear c36
                                  replace H := Option.bind_eq_some_iff.mp H
                                  obtain ⟨t141, A390, H⟩ := H
                                  replace H : (if t141 ≤ 48 then (if t135 = (x5_2.length : Int) then (some true) else (if 0 ≤ t135 then (if t135 < (x5_2.length : Int) then ((ring_Need.f (wrap64 (x9_4 + (rd x5_2 t135)))).bind fun t143 => (some (decide (t143 > 48)))) else (none)) else (none))) else (some false)) = some r := H
                                  have A39 := Aside0.mk A390
                                  clear A390
                                  by_cases c40 : t141 ≤ 48
                                  · rw [if_pos c40] at H
                                    have c40b0 : decide (t141 ≤ 48) = true := decide_eq_true c40
                                    clear c40
                                    by_cases c41 : t135 = (x5_2.length : Int)
                                    · rw [if_pos c41] at H
                                      have c41b0 : (t135 == (x5_2.length : Int)) = true := beq_iff_eq.mpr c41
                                      have c41b1 : (t135 != (x5_2.length : Int)) = false := bne_eq_false_iff_eq.mpr c41
                                      clear c41
                                      obtain rfl := Option.some.inj H
                                      go_wp2_with (first | ((with_reducible refine gate_callee (f := 16) rfl ?_); refine goesL_ (some 73) rfl rfl Try.func16 (by kernel_rfl) rfl #[.int .i64 x9_4] rfl (by (try simp only [List.map_toArray, List.map_cons, List.map_nil]); first | done | rfl | (simp only [List.length_drop, List.length_take]; rfl)) ?_; (with_reducible refine (ring_Need.calls x9_4 t141 _ A39.out).mono ?_); rintro e w' ⟨rfl, ⟨nd, rfl⟩⟩; refine ⟨_, rfl, ?_⟩))
                                      go_ret
                                      exact ⟨by first | rfl | (simp [errW_none, errW_some] <;> rfl) | (simp only [← hji3, ← hji17]; first | rfl | (simp [errW_none, errW_some] <;> rfl)) | (simp [*, errW_none, errW_some] <;> rfl), by repeat (first | (with_reducible first | exact HB.out | apply below_alloc | apply pw_below_drewN | apply below_drew1) | exact HB.out)⟩
                                    · rw [if_neg c41] at H
                                      have c41b0 : (t135 == (x5_2.length : Int)) = false := beq_eq_false_iff_ne.mpr c41
                                      have c41b1 : (t135 != (x5_2.length : Int)) = true := bne_iff_ne.mpr c41
                                      by_cases c42 : 0 ≤ t135
                                      · rw [if_pos c42] at H
                                        have c42b0 : decide (0 ≤ t135) = true := decide_eq_true c42
                                        clear c42
                                        by_cases c43 : t135 < (x5_2.length : Int)
                                        · rw [if_pos c43] at H
                                          have c43b0 : decide (t135 < (x5_2.length : Int)) = true := decide_eq_true c43
                                          clear c43
                                          replace H := Option.bind_eq_some_iff.mp H
                                          obtain ⟨t143, A440, H⟩ := H
                                          replace H : (some (decide (t143 > 48))) = some r := H
                                          have A44 := Aside0.mk A440
                                          clear A440
                                          obtain rfl := Option.some.inj H
                                          go_wp2_with (first | ((with_reducible refine gate_callee (f := 16) rfl ?_); refine goesL_ (some 73) rfl rfl Try.func16 (by kernel_rfl) rfl #[.int .i64 x9_4] rfl (by (try simp only [List.map_toArray, List.map_cons, List.map_nil]); first | done | rfl | (simp only [List.length_drop, List.length_take]; rfl)) ?_; (with_reducible refine (ring_Need.calls x9_4 t141 _ A39.out).mono ?_); rintro e w' ⟨rfl, ⟨nd, rfl⟩⟩; refine ⟨_, rfl, ?_⟩; have p142 : 0 ≤ (t135 : Int) := of_decide_eq_true (by first | (with_reducible assumption) | assumption); have q142 : t135 < (x5_2.length : Int) := of_decide_eq_true (by first | (with_reducible assumption) | assumption); obtain ⟨ad142, e142, hx142_0⟩ := Kd.at_int (Kd.R_reads' HO_5.out).2.2 t135 p142 q142; cases e142; replace p142 := eq_true p142; replace q142 := eq_true q142) | (go_at_call 16; (with_reducible refine (ring_Need.calls (wrap64 (x9_4 + (rd x5_2 t135))) t143 _ A44.out).mono ?_); rintro e w' ⟨rfl, ⟨nd, rfl⟩⟩))
                                          go_ret
                                          exact ⟨by first | rfl | (simp [errW_none, errW_some] <;> rfl) | (simp only [← hji3, ← hji17]; first | rfl | (simp [errW_none, errW_some] <;> rfl)) | (simp [*, errW_none, errW_some] <;> rfl), by repeat (first | (with_reducible first | exact HB.out | apply below_alloc | apply pw_below_drewN | apply below_drew1) | exact HB.out)⟩
                                        · rw [if_neg c43] at H
                                          exact absurd H (by simp)
                                      · rw [if_neg c42] at H
                                        exact absurd H (by simp)
                                  · rw [if_neg c40] at H
                                    have c40b0 : decide (t141 ≤ 48) = false := decide_eq_false c40
                                    clear c40
                                    obtain rfl := Option.some.inj H
                                    go_wp2_with (first | ((with_reducible refine gate_callee (f := 16) rfl ?_); refine goesL_ (some 73) rfl rfl Try.func16 (by kernel_rfl) rfl #[.int .i64 x9_4] rfl (by (try simp only [List.map_toArray, List.map_cons, List.map_nil]); first | done | rfl | (simp only [List.length_drop, List.length_take]; rfl)) ?_; (with_reducible refine (ring_Need.calls x9_4 t141 _ A39.out).mono ?_); rintro e w' ⟨rfl, ⟨nd, rfl⟩⟩; refine ⟨_, rfl, ?_⟩))
                                    go_ret
                                    exact ⟨by first | rfl | (simp [errW_none, errW_some] <;> rfl) | (simp only [← hji3, ← hji17]; first | rfl | (simp [errW_none, errW_some] <;> rfl)) | (simp [*, errW_none, errW_some] <;> rfl), by repeat (first | (with_reducible first | exact HB.out | apply below_alloc | apply pw_below_drewN | apply below_drew1) | exact HB.out)⟩
                          · rw [if_neg c34] at H
                            exact absurd H (by simp)
                        · rw [if_neg c33] at H
                          exact absurd H (by simp)
          · rw [if_neg c19] at H
            exact absurd H (by simp)
        · rw [if_neg c18] at H
          exact absurd H (by simp)

/-- THE ONE PURE STATEMENT of trunnionlaw13_RingFits: yours. -/
def trunnionlaw13_RingFits.Pure : Prop := ∀ (l0 : List Int) (a1 : Int), l0.length ≤ maxLen → l0.length * 8 ≤ 140737488351232 → (∀ x ∈ l0, (Lit.int .i64 x).wf = true) → (Lit.int .i64 a1).wf = true → ∃ k, trunnionlaw13_RingFits.f k l0 a1 = some true
theorem trunnionlaw13_RingFits.walk (P : trunnionlaw13_RingFits.Pure) (a0 : Option Addr) (len0 cap0 : Nat) (z0 : List Int) (a1 : Int) (w : World) (w0 : (a0 = none ∧ len0 = 0 ∧ cap0 = 0 ∧ z0 = []) ∨ ∃ x, a0 = some x ∧ len0 ≤ cap0 ∧ cap0 ≤ maxLen ∧ z0.length = cap0 ∧ (∀ i, i < z0.length → w.cell? (x.add i) = some (.int .i64 (z0.getD i 0))) ∧ ∀ n ∈ z0, (Lit.int .i64 n).wf = true) (y0 : len0 * 8 ≤ 140737488351232) (w1 : (Lit.int .i64 a1).wf = true) :
    Calls Try.prog 8 #[.slice a0 len0 cap0, .int .i64 a1] w fun e w' => e = .returned (.bool true) ∧ Below w.heap.size w w' := by
  obtain ⟨l0, rfl, hr0, hm0, hw0, hc0⟩ := ReadsInt.ofRowC w0
  obtain ⟨k, h⟩ := P l0 a1 hm0 y0 hw0 w1
  refine (trunnionlaw13_RingFits.calls k _ _ l0 a1 true w (Kd.C_of_reads (d := (0 : Int)) (h1 := fun _ => rfl) hr0) hc0 h).mono ?_
  rintro e w' ⟨rfl, hd⟩
  exact ⟨rfl, hd⟩

end Go.Proofs.Ytanaaleojpbfbaa.PRFi
