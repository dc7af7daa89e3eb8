/- BulkPlaces: each byte hangs on those at its place alone: cut off anywhere the parts are those of the whole; walked. -/
import Derived.Test.YtgojbngdncligaaBuf
import Derived.Deep.RegionHeld3
import Derived.Deep.DeepCutAuto
namespace Go.Proofs.Ytgojbngdncligaa.BulkPlacesW
open Go.RowKit Go.Proofs.Ytgojbngdncligaa.Mem Go.Proofs.Ytgojbngdncligaa.Bulk Go.Proofs.Ytgojbngdncligaa.Opn
set_option linter.unusedVariables false
set_option linter.unusedSimpArgs false

theorem none_zero (t : ByteArray) : orNone 0 t = t := by unfold orNone; rw [if_pos rfl]
set_option maxHeartbeats 4000000 in
set_option maxRecDepth 100000 in
theorem walk (a0 : Array Value) (a1 a2 : Int) (w : World) (f0 : Rd w (arr 1 (.str) 2) a0.toList) (f1 : (Lit.int .u8 a1).wf = true) (f2 : (Lit.int .i64 a2).wf = true) :
    Calls Try.prog 6 #[.agg a0, .int .u8 a1, .int .i64 a2] w fun e w' => e = .returned (.bool true) ∧ Below w.heap.size w w' := by
  obtain ⟨s0, s1, rfl, z0, z1⟩ := rd_pair f0
  obtain ⟨c, rfl, hc⟩ := wf_u8 f1
  obtain ⟨l0, l1, hL, y0, y1, y2⟩ := cut_pair true s0 s1
  have h1 := y2 rfl
  have hcut := BulkCut.cut_calls (some ⟨w.heap.size, 0, none⟩) 2 [s0, s1] true (by simp) (by omega) (fun s hs => by simp at hs; rcases hs with rfl | rfl <;> assumption) _ (pair_strs w s0 s1 31)
  rw [hL] at hcut
  have HC := Lib.hid hcut
  clear hcut hL f0 f1 y2
  go_enter Try.func6, Try.ntmps6
  go_wp2_with fail
  refine HC.out.mono ?_
  rintro e w1 ⟨v, rfl, hown, b1⟩
  obtain ⟨g, c', rfl, k1, k2, hS⟩ := St.of_own hown b1
  have hS00 : St w g l0 l1 w1 := ⟨hS.c0, hS.c1, bt (ba (br _) _) b1⟩
  clear hown b1 hS
  go_upto_region 2 with fail
  go_cut [8] (fun s8 wx => ∃ k : Nat, k ≤ l0.size ∧ s8 = .int .i64 k ∧ St w g l0 l1 wx)
  case first =>
    have x0 := hS00.c0
    simp [Lit.wf, IntKind.min, IntKind.max, IntKind.signed, IntKind.bits] at f2
    by_cases hneg : a2 < 0
    · have e0 : max (0 : Int) a2 = 0 := by omega
      go_wp2
      go_meet
      case rel => exact ⟨0, Nat.zero_le _, rfl, hS00⟩
    · have e0 : max (0 : Int) a2 = a2 := by omega
      have e1 : (0 : Int) ≤ a2 := by omega
      go_wp2
      go_meet
      case rel =>
        have hm := Int.emod_nonneg a2 (show (l0.size : Int) + 1 ≠ 0 by omega)
        have hl := Int.emod_lt_of_pos a2 (show (0 : Int) < (l0.size : Int) + 1 by omega)
        exact ⟨(a2 % ((l0.size : Int) + 1)).toNat, by omega, by rw [Int.toNat_of_nonneg hm], hS00⟩
  case rest =>
    obtain ⟨k, hk, rfl, hS0⟩ := hcut
    clear hS00 f2
    have hjF := join_places (fun x y => bFold x c y) (fun x y => x ^^^ Gmul.gmul y c) (fun x y h => fold_size x c y h) (fun x y h i => bat_fold x c y h i) l0 l1 h1 k hk
    have hjD := join_places bDouble (fun x y => Gmul.gmul x 2 ^^^ y) (fun x y h => double_size x y h) (fun x y h i => bat_double x y h i) l0 l1 h1 k hk
    obtain ⟨x1, hx1⟩ : ∃ x, x = l0.extract 0 k := ⟨_, rfl⟩
    obtain ⟨y1', hy1⟩ : ∃ x, x = l1.extract 0 k := ⟨_, rfl⟩
    obtain ⟨x2, hx2⟩ : ∃ x, x = l0.extract k l0.size := ⟨_, rfl⟩
    obtain ⟨y2', hy2⟩ : ∃ x, x = l1.extract k l1.size := ⟨_, rfl⟩
    have hz1 : x1.size = k ∧ y1'.size = k ∧ x2.size = l0.size - k ∧ y2'.size = l0.size - k := by
      refine ⟨?_, ?_, ?_, ?_⟩
      · rw [hx1, ByteArray.size_extract]; omega
      · rw [hy1, ByteArray.size_extract]; omega
      · rw [hx2, ByteArray.size_extract]; omega
      · rw [hy2, ByteArray.size_extract]; omega
    obtain ⟨hz1, hz2, hz3, hz4⟩ := hz1
    rw [← hx1, ← hy1, ← hx2, ← hy2] at hjF hjD
    obtain ⟨F, hF⟩ : ∃ F, F = bFold l0 c l1 := ⟨_, rfl⟩
    obtain ⟨A, hA⟩ : ∃ A, A = bFold x1 c y1' := ⟨_, rfl⟩
    obtain ⟨B, hB⟩ : ∃ B, B = bFold x2 c y2' := ⟨_, rfl⟩
    obtain ⟨D, hD⟩ : ∃ D, D = bDouble l0 l1 := ⟨_, rfl⟩
    obtain ⟨M, hM⟩ : ∃ M, M = bDouble x1 y1' := ⟨_, rfl⟩
    obtain ⟨N, hN⟩ : ∃ N, N = bDouble x2 y2' := ⟨_, rfl⟩
    have q1 : A.size = k := by rw [hA, fold_size _ _ _ (by omega)]; exact hz1
    have q2 : B.size = l0.size - k := by rw [hB, fold_size _ _ _ (by omega)]; exact hz3
    have q3 : M.size = k := by rw [hM, double_size _ _ (by omega)]; exact hz1
    have q4 : N.size = l0.size - k := by rw [hN, double_size _ _ (by omega)]; exact hz3
    have hjF : A ++ B = F := by rw [hA, hB, hF]; exact hjF
    have hjD : M ++ N = D := by rw [hM, hN, hD]; exact hjD
    have c1 : Hid (∀ wx, St w g l0 l1 wx → Calls Try.prog 20 #[.string l0, .int .u8 (c : Nat), .string l1] wx fun e w' => e = .returned (.tuple #[.string F, .int .i64 0]) ∧ St w g l0 l1 w') := Lib.hid (fun wx h => by
      refine (fold_calls l0 c hc l1 (by omega) (by omega) wx).mono ?_
      rw [fit_pair l0 l1 (by omega) (by omega), none_zero, ← hF]
      rintro e w' ⟨rfl, b⟩; exact ⟨rfl, h.step b⟩)
    have c2 : Hid (∀ wx, St w g l0 l1 wx → Calls Try.prog 20 #[.string (l0.extract 0 k), .int .u8 (c : Nat), .string (l1.extract 0 k)] wx fun e w' => e = .returned (.tuple #[.string A, .int .i64 0]) ∧ St w g l0 l1 w') := Lib.hid (fun wx h => by
      rw [← hx1]
      rw [← hy1]
      refine (fold_calls x1 c hc y1' (by omega) (by omega) wx).mono ?_
      rw [fit_pair x1 y1' (by omega) (by omega), none_zero, ← hA]
      rintro e w' ⟨rfl, b⟩; exact ⟨rfl, h.step b⟩)
    have c3 : Hid (∀ wx, St w g l0 l1 wx → Calls Try.prog 20 #[.string (l0.extract k l0.size), .int .u8 (c : Nat), .string (l1.extract k l1.size)] wx fun e w' => e = .returned (.tuple #[.string B, .int .i64 0]) ∧ St w g l0 l1 w') := Lib.hid (fun wx h => by
      rw [← hx2]
      rw [← hy2]
      refine (fold_calls x2 c hc y2' (by omega) (by omega) wx).mono ?_
      rw [fit_pair x2 y2' (by omega) (by omega), none_zero, ← hB]
      rintro e w' ⟨rfl, b⟩; exact ⟨rfl, h.step b⟩)
    have c4 : Hid (∀ wx, St w g l0 l1 wx → Calls Try.prog 22 #[.string l0, .string l1] wx fun e w' => e = .returned (.tuple #[.string D, .int .i64 0]) ∧ St w g l0 l1 w') := Lib.hid (fun wx h => by
      refine (double_calls l0 l1 (by omega) (by omega) wx).mono ?_
      rw [fit_pair l0 l1 (by omega) (by omega), none_zero, ← hD]
      rintro e w' ⟨rfl, b⟩; exact ⟨rfl, h.step b⟩)
    have c5 : Hid (∀ wx, St w g l0 l1 wx → Calls Try.prog 22 #[.string (l0.extract 0 k), .string (l1.extract 0 k)] wx fun e w' => e = .returned (.tuple #[.string M, .int .i64 0]) ∧ St w g l0 l1 w') := Lib.hid (fun wx h => by
      rw [← hx1]
      rw [← hy1]
      refine (double_calls x1 y1' (by omega) (by omega) wx).mono ?_
      rw [fit_pair x1 y1' (by omega) (by omega), none_zero, ← hM]
      rintro e w' ⟨rfl, b⟩; exact ⟨rfl, h.step b⟩)
    have c6 : Hid (∀ wx, St w g l0 l1 wx → Calls Try.prog 22 #[.string (l0.extract k l0.size), .string (l1.extract k l1.size)] wx fun e w' => e = .returned (.tuple #[.string N, .int .i64 0]) ∧ St w g l0 l1 w') := Lib.hid (fun wx h => by
      rw [← hx2]
      rw [← hy2]
      refine (double_calls x2 y2' (by omega) (by omega) wx).mono ?_
      rw [fit_pair x2 y2' (by omega) (by omega), none_zero, ← hN]
      rintro e w' ⟨rfl, b⟩; exact ⟨rfl, h.step b⟩)
    have j0 : (0 : Int) ≤ (k : Int) := by omega
    have j1 : (k : Int) ≤ (l0.size : Int) := by omega
    have j2 : (k : Int) ≤ (l1.size : Int) := by omega
    have j5 : A.size + B.size ≤ 400 := by omega
    have j6 : M.size + N.size ≤ 400 := by omega
    clear hx1 hy1 hx2 hy2 hz1 hz2 hz3 hz4 hF hA hB hD hM hN q1 q2 q3 q4 h1
    go_upto_region 3 with fail
    go_region_held3 (fun w' => w'.cell? ⟨g, 0, none⟩ = some (.string l0) ∧ w'.cell? ⟨g, 1, none⟩ = some (.string l1) ∧ St w g l0 l1 w') (first | exact St.three (by assumption) | exact hS0.drew.three) (first
      | (go_at_call 20; refine (c1.out _ (by first | assumption | exact And.right (And.right (by assumption)))).mono ?_; rintro e w' ⟨rfl, hS'⟩))
    obtain ⟨_, _, hS1⟩ := ‹_ ∧ _ ∧ St w g l0 l1 _›
    go_upto_region 4 with fail
    go_region_held3 (fun w' => w'.cell? ⟨g, 0, none⟩ = some (.string l0) ∧ w'.cell? ⟨g, 1, none⟩ = some (.string l1) ∧ St w g l0 l1 w') (first | exact St.three (by assumption) | exact hS1.drew.three) (first
      | (go_at_call 20; refine (c2.out _ (by first | assumption | exact And.right (And.right (by assumption)))).mono ?_; rintro e w' ⟨rfl, hS'⟩))
    obtain ⟨_, _, hS2⟩ := ‹_ ∧ _ ∧ St w g l0 l1 _›
    go_upto_region 5 with fail
    go_region_held3 (fun w' => w'.cell? ⟨g, 0, none⟩ = some (.string l0) ∧ w'.cell? ⟨g, 1, none⟩ = some (.string l1) ∧ St w g l0 l1 w') (first | exact St.three (by assumption) | exact hS2.drew.three) (first
      | (go_at_call 20; refine (c3.out _ (by first | assumption | exact And.right (And.right (by assumption)))).mono ?_; rintro e w' ⟨rfl, hS'⟩))
    obtain ⟨_, _, hS3⟩ := ‹_ ∧ _ ∧ St w g l0 l1 _›
    go_upto_region 6 with fail
    go_region_held3 (fun w' => w'.cell? ⟨g, 0, none⟩ = some (.string l0) ∧ w'.cell? ⟨g, 1, none⟩ = some (.string l1) ∧ St w g l0 l1 w') (first | exact St.three (by assumption) | exact hS3.drew.three) (first
      | (go_at_call 22; refine (c4.out _ (by first | assumption | exact And.right (And.right (by assumption)))).mono ?_; rintro e w' ⟨rfl, hS'⟩))
    obtain ⟨_, _, hS4⟩ := ‹_ ∧ _ ∧ St w g l0 l1 _›
    go_upto_region 7 with fail
    go_region_held3 (fun w' => w'.cell? ⟨g, 0, none⟩ = some (.string l0) ∧ w'.cell? ⟨g, 1, none⟩ = some (.string l1) ∧ St w g l0 l1 w') (first | exact St.three (by assumption) | exact hS4.drew.three) (first
      | (go_at_call 22; refine (c5.out _ (by first | assumption | exact And.right (And.right (by assumption)))).mono ?_; rintro e w' ⟨rfl, hS'⟩))
    obtain ⟨_, _, hS5⟩ := ‹_ ∧ _ ∧ St w g l0 l1 _›
    go_upto_region 8 with fail
    go_region_held3 (fun w' => w'.cell? ⟨g, 0, none⟩ = some (.string l0) ∧ w'.cell? ⟨g, 1, none⟩ = some (.string l1) ∧ St w g l0 l1 w') (first | exact St.three (by assumption) | exact hS5.drew.three) (first
      | (go_at_call 22; refine (c6.out _ (by first | assumption | exact And.right (And.right (by assumption)))).mono ?_; rintro e w' ⟨rfl, hS'⟩))
    obtain ⟨_, _, hS6⟩ := ‹_ ∧ _ ∧ St w g l0 l1 _›
    go_wp2_with fail
    refine (wakes_calls _).mono ?_
    rintro e w30 ⟨rfl, b30⟩
    have hS30 := hS6.step b30
    go_wp2
    go_ret
    exact ⟨rfl, hS30.below⟩
end Go.Proofs.Ytgojbngdncligaa.BulkPlacesW
