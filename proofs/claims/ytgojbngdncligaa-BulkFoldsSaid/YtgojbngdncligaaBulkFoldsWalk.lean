/- BulkFolds: every buffer times every element, added, doubled, is the document's, or its error; walked. -/
import Derived.Test.YtgojbngdncligaaBulkRef
import Derived.Deep.RegionHeld3
namespace Go.Proofs.Ytgojbngdncligaa.BulkFoldsW
open Go.RowKit Go.Proofs.Ytgojbngdncligaa.Mem Go.Proofs.Ytgojbngdncligaa.Bulk Go.Proofs.Ytgojbngdncligaa.Opn
set_option linter.unusedVariables false
set_option linter.unusedSimpArgs false

set_option maxHeartbeats 4000000 in
set_option maxRecDepth 100000 in
theorem walk (a0 : Array Value) (a1 : Int) (a2 : Bool) (w : World) (f0 : Rd w (arr 1 (.str) 2) a0.toList) (f1 : (Lit.int .u8 a1).wf = true) :
    Calls Try.prog 4 #[.agg a0, .int .u8 a1, .bool a2] w fun e w' => e = .returned (.bool true) ∧ Below w.heap.size w w' := by
  obtain ⟨s0, s1, rfl, z0, z1⟩ := rd_pair f0
  obtain ⟨c, rfl, hc⟩ := wf_u8 f1
  obtain ⟨l0, l1, hL, y0, y1, _⟩ := cut_pair a2 s0 s1
  have hcut := BulkCut.cut_calls (some ⟨w.heap.size, 0, none⟩) 2 [s0, s1] a2 (by simp) (by omega) (fun s hs => by simp at hs; rcases hs with rfl | rfl <;> assumption) _ (pair_strs w s0 s1 31)
  rw [hL] at hcut
  have HC := Lib.hid hcut
  clear hcut hL f0 f1
  have cScale : Hid (∀ g wx, St w g l0 l1 wx → Calls Try.prog 18 #[.int .u8 (c : Nat), .string l0] wx fun e w' => e = .returned (.tuple #[.string (orNone (fitN [l0]) (bScale c l0)), .int .i64 (fitN [l0])]) ∧ St w g l0 l1 w') := Lib.hid (fun g wx h => by
    refine (scale_calls c hc l0 (by omega) wx).mono ?_
    rintro e w' ⟨rfl, b⟩; exact ⟨rfl, h.step b⟩)
  have rScale : Hid (∀ g wx, St w g l0 l1 wx → Calls Try.prog 19 #[.int .u8 (c : Nat), .string l0] wx fun e w' => e = .returned (.tuple #[.string (orNone (fitN [l0]) (bScale c l0)), .int .i64 (fitN [l0])]) ∧ St w g l0 l1 w') := Lib.hid (fun g wx h => by
    refine (ref_scale_calls c hc l0 wx).mono ?_
    rintro e w' ⟨rfl, b⟩; exact ⟨rfl, h.step b⟩)
  have cFold : Hid (∀ g wx, St w g l0 l1 wx → Calls Try.prog 20 #[.string l0, .int .u8 (c : Nat), .string l1] wx fun e w' => e = .returned (.tuple #[.string (orNone (fitN [l0, l1]) (bFold l0 c l1)), .int .i64 (fitN [l0, l1])]) ∧ St w g l0 l1 w') := Lib.hid (fun g wx h => by
    refine (fold_calls l0 c hc l1 (by omega) (by omega) wx).mono ?_
    rintro e w' ⟨rfl, b⟩; exact ⟨rfl, h.step b⟩)
  have rFold : Hid (∀ g wx, St w g l0 l1 wx → Calls Try.prog 21 #[.string l0, .int .u8 (c : Nat), .string l1] wx fun e w' => e = .returned (.tuple #[.string (orNone (fitN [l0, l1]) (bFold l0 c l1)), .int .i64 (fitN [l0, l1])]) ∧ St w g l0 l1 w') := Lib.hid (fun g wx h => by
    refine (ref_fold_calls l0 c hc l1 wx).mono ?_
    rintro e w' ⟨rfl, b⟩; exact ⟨rfl, h.step b⟩)
  have cDouble : Hid (∀ g wx, St w g l0 l1 wx → Calls Try.prog 22 #[.string l0, .string l1] wx fun e w' => e = .returned (.tuple #[.string (orNone (fitN [l0, l1]) (bDouble l0 l1)), .int .i64 (fitN [l0, l1])]) ∧ St w g l0 l1 w') := Lib.hid (fun g wx h => by
    refine (double_calls l0 l1 (by omega) (by omega) wx).mono ?_
    rintro e w' ⟨rfl, b⟩; exact ⟨rfl, h.step b⟩)
  have rDouble : Hid (∀ g wx, St w g l0 l1 wx → Calls Try.prog 23 #[.string l0, .string l1] wx fun e w' => e = .returned (.tuple #[.string (orNone (fitN [l0, l1]) (bDouble l0 l1)), .int .i64 (fitN [l0, l1])]) ∧ St w g l0 l1 w') := Lib.hid (fun g wx h => by
    refine (ref_double_calls l0 l1 wx).mono ?_
    rintro e w' ⟨rfl, b⟩; exact ⟨rfl, h.step b⟩)
  go_enter Try.func4, Try.ntmps4
  go_wp2_with fail
  refine HC.out.mono ?_
  rintro e w1 ⟨v, rfl, hown, b1⟩
  obtain ⟨g, c', rfl, k1, k2, hS⟩ := St.of_own hown b1
  have hS0 : St w g l0 l1 w1 := ⟨hS.c0, hS.c1, bt (ba (br _) _) b1⟩
  clear hown b1 hS
  have x0 := hS0.c0
  go_wp2_with fail
  refine (cScale.out g _ hS0).mono ?_
  rintro e w2 ⟨rfl, hS1⟩
  clear x0
  have x0 := hS1.c0
  go_wp2_with fail
  refine (rScale.out g _ hS1).mono ?_
  rintro e w3 ⟨rfl, hS2⟩
  clear x0
  go_upto_region 4 with fail
  go_region_held3 (fun w' => w'.cell? ⟨g, 0, none⟩ = some (.string l0) ∧ w'.cell? ⟨g, 1, none⟩ = some (.string l1) ∧ St w g l0 l1 w') (first | exact ⟨hS2.c0, hS2.c1, hS2.drew⟩ | exact ⟨St.c0 (by assumption), St.c1 (by assumption), by assumption⟩) (first
    | (go_at_call 20; refine (cFold.out g _ (by first | assumption | exact And.right (And.right (by assumption)))).mono ?_; rintro e w' ⟨rfl, hS'⟩))
  obtain ⟨_, _, hS3⟩ := ‹_ ∧ _ ∧ St w g l0 l1 _›
  go_upto_region 5 with fail
  go_region_held3 (fun w' => w'.cell? ⟨g, 0, none⟩ = some (.string l0) ∧ w'.cell? ⟨g, 1, none⟩ = some (.string l1) ∧ St w g l0 l1 w') (first | exact ⟨hS3.c0, hS3.c1, hS3.drew⟩ | exact ⟨St.c0 (by assumption), St.c1 (by assumption), by assumption⟩) (first
    | (go_at_call 21; refine (rFold.out g _ (by first | assumption | exact And.right (And.right (by assumption)))).mono ?_; rintro e w' ⟨rfl, hS'⟩))
  obtain ⟨_, _, hS4⟩ := ‹_ ∧ _ ∧ St w g l0 l1 _›
  go_upto_region 6 with fail
  go_region_held3 (fun w' => w'.cell? ⟨g, 0, none⟩ = some (.string l0) ∧ w'.cell? ⟨g, 1, none⟩ = some (.string l1) ∧ St w g l0 l1 w') (first | exact ⟨hS4.c0, hS4.c1, hS4.drew⟩ | exact ⟨St.c0 (by assumption), St.c1 (by assumption), by assumption⟩) (first
    | (go_at_call 22; refine (cDouble.out g _ (by first | assumption | exact And.right (And.right (by assumption)))).mono ?_; rintro e w' ⟨rfl, hS'⟩))
  obtain ⟨_, _, hS5⟩ := ‹_ ∧ _ ∧ St w g l0 l1 _›
  go_upto_region 7 with fail
  go_region_held3 (fun w' => w'.cell? ⟨g, 0, none⟩ = some (.string l0) ∧ w'.cell? ⟨g, 1, none⟩ = some (.string l1) ∧ St w g l0 l1 w') (first | exact ⟨hS5.c0, hS5.c1, hS5.drew⟩ | exact ⟨St.c0 (by assumption), St.c1 (by assumption), by assumption⟩) (first
    | (go_at_call 23; refine (rDouble.out g _ (by first | assumption | exact And.right (And.right (by assumption)))).mono ?_; rintro e w' ⟨rfl, hS'⟩))
  obtain ⟨_, _, hS6⟩ := ‹_ ∧ _ ∧ St w g l0 l1 _›
  go_wp2_with fail
  refine (wakes_calls _).mono ?_
  rintro e w8 ⟨rfl, b8⟩
  go_wp2
  go_ret
  exact ⟨rfl, (hS6.step b8).below⟩
end Go.Proofs.Ytgojbngdncligaa.BulkFoldsW
