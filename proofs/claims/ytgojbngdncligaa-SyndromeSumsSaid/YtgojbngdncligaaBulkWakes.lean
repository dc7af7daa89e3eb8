/- What the document fixes of buffers: walked. -/
import Derived.Test.YtgojbngdncligaaNoughts
namespace Go.Proofs.Ytgojbngdncligaa.Bulk
open Go.RowKit Go.Proofs.Ytgojbngdncligaa.Mem Go.Proofs.Ytgojbngdncligaa.Lanes
open Go.Proofs.YtgojbngdncligaaW.PrintWords hiding bt
set_option linter.unusedVariables false
set_option linter.unusedSimpArgs false

set_option maxHeartbeats 1000000 in
set_option maxRecDepth 100000 in
theorem wakes_calls (w : World) : Calls Try.prog 17 #[] w fun e w' => e = .returned (.bool true) ∧ Below w.heap.size w w' := by
  have m1 : orNone (fitN [⟨#[15]⟩, ⟨#[5]⟩]) (addAll [⟨#[15]⟩, ⟨#[5]⟩]) = ⟨#[10]⟩ ∧ fitN [⟨#[15]⟩, ⟨#[5]⟩] = 0 := by decide +kernel
  have m2 : orNone (fitN [⟨#[1]⟩, ⟨#[128]⟩]) (bFold ⟨#[1]⟩ 2 ⟨#[128]⟩) = ⟨#[28]⟩ ∧ fitN [⟨#[1]⟩, ⟨#[128]⟩] = 0 := by decide +kernel
  have m3 : orNone (fitN [⟨#[128]⟩, ⟨#[1]⟩]) (bDouble ⟨#[128]⟩ ⟨#[1]⟩) = ⟨#[28]⟩ ∧ fitN [⟨#[128]⟩, ⟨#[1]⟩] = 0 := by decide +kernel
  have m4 : orNone (fitN [⟨#[128, 1]⟩]) (bScale 2 ⟨#[128, 1]⟩) = ⟨#[29, 2]⟩ ∧ fitN [⟨#[128, 1]⟩] = 0 := by decide +kernel
  have m5 : noughts (max 0 (min (2 : Int) 65536)).toNat = ⟨#[0, 0]⟩ := by decide +kernel
  have M := Lib.hid (And.intro m1 (And.intro m2 (And.intro m3 (And.intro m4 m5))))
  clear m1 m2 m3 m4 m5
  go_enter Try.func17, Try.ntmps17
  go_wp2_with fail
  obtain ⟨w1, hw1⟩ : ∃ w1, w1 = w.alloc (.cells #[.string ⟨#[15]⟩, .string ⟨#[5]⟩] 9) := ⟨_, rfl⟩
  have hS : Strs w1 (some ⟨w.heap.size, 0, none⟩) [⟨#[15]⟩, ⟨#[5]⟩] := by
    rw [hw1]
    intro i t ht
    rcases i with _ | _ | i
    · simp at ht; subst ht; exact ⟨_, rfl, by simp [Addr.add]⟩
    · simp at ht; subst ht; exact ⟨_, rfl, by simp [Addr.add]⟩
    · simp at ht
  have hb : Below w.heap.size w w1 := by rw [hw1]; exact ba (br _) _
  have hlt : w.heap.size < w1.heap.size := by rw [hw1]; simp
  rw [← hw1]
  clear hw1
  refine (add_calls (some ⟨w.heap.size, 0, none⟩) 2 [⟨#[15]⟩, ⟨#[5]⟩] (by decide) (by decide) (by decide) w1 hS (fun x hx => by obtain rfl := Option.some.inj hx; exact hlt)).mono ?_
  rw [M.out.1.1, M.out.1.2]
  rintro e w2 ⟨rfl, b2⟩
  go_wp2_with fail
  refine (fold_calls ⟨#[1]⟩ 2 (by decide) ⟨#[128]⟩ (by decide) (by decide) _).mono ?_
  rw [M.out.2.1.1, M.out.2.1.2]
  rintro e w3 ⟨rfl, b3⟩
  go_wp2_with fail
  refine (double_calls ⟨#[128]⟩ ⟨#[1]⟩ (by decide) (by decide) _).mono ?_
  rw [M.out.2.2.1.1, M.out.2.2.1.2]
  rintro e w4 ⟨rfl, b4⟩
  go_wp2_with fail
  refine (scale_calls 2 (by decide) ⟨#[128, 1]⟩ (by decide) _).mono ?_
  rw [M.out.2.2.2.1.1, M.out.2.2.2.1.2]
  rintro e w5 ⟨rfl, b5⟩
  go_wp2_with fail
  refine (noughts_calls 2 _).mono ?_
  rw [M.out.2.2.2.2]
  rintro e w6 ⟨rfl, b6⟩
  go_wp2
  go_ret
  exact ⟨rfl, bt (bt (bt (bt (bt hb b2) b3) b4) b5) b6⟩
end Go.Proofs.Ytgojbngdncligaa.Bulk
