/- BulkBack: what was added is taken away by adding it again; in whatever order sums are the same; times an element and then another one, in any order; walked. -/
import Derived.Test.YtgojbngdncligaaBuf
import Derived.Deep.RegionHeld3
namespace Go.Proofs.Ytgojbngdncligaa.BulkBackW
open Go.RowKit Go.Proofs.Ytgojbngdncligaa.Mem Go.Proofs.Ytgojbngdncligaa.Bulk Go.Proofs.Ytgojbngdncligaa.Opn
set_option linter.unusedVariables false
set_option linter.unusedSimpArgs false

theorem none_zero (t : ByteArray) : orNone 0 t = t := by unfold orNone; rw [if_pos rfl]
set_option maxHeartbeats 4000000 in
set_option maxRecDepth 100000 in
theorem walk (a0 : Array Value) (a1 a2 : Int) (w : World) (f0 : Rd w (arr 1 (.str) 2) a0.toList) (f1 : (Lit.int .u8 a1).wf = true) (f2 : (Lit.int .u8 a2).wf = true) :
    Calls Try.prog 5 #[.agg a0, .int .u8 a1, .int .u8 a2] w fun e w' => e = .returned (.bool true) ∧ Below w.heap.size w w' := by
  obtain ⟨s0, s1, rfl, z0, z1⟩ := rd_pair f0
  obtain ⟨c, rfl, hc⟩ := wf_u8 f1
  obtain ⟨d, rfl, hd⟩ := wf_u8 f2
  obtain ⟨l0, l1, hL, y0, y1, y2⟩ := cut_pair true s0 s1
  have h1 := y2 rfl
  have hcut := BulkCut.cut_calls (some ⟨w.heap.size, 0, none⟩) 2 [s0, s1] true (by simp) (by omega) (fun s hs => by simp at hs; rcases hs with rfl | rfl <;> assumption) _ (pair_strs w s0 s1 31)
  rw [hL] at hcut
  have HC := Lib.hid hcut
  clear hcut hL f0 f1 f2 y2
  obtain ⟨p, hp⟩ : ∃ p, p = bAdd l0 l1 := ⟨_, rfl⟩
  have hp1 : p.size = l0.size := by rw [hp, bAdd_size _ _ h1.symm]
  have hp2 : bAdd p l1 = l0 := by rw [hp, add_add_back l0 l1 h1]
  have hp3 : bAdd l1 l0 = p := by rw [hp, add_comm' l0 l1 h1]
  obtain ⟨q, hq⟩ : ∃ q, q = bScale c l0 := ⟨_, rfl⟩
  have hq1 : q.size = l0.size := by rw [hq, scale_size]
  obtain ⟨r, hr⟩ : ∃ r, r = bScale d l0 := ⟨_, rfl⟩
  have hr1 : r.size = l0.size := by rw [hr, scale_size]
  obtain ⟨m, hm⟩ : ∃ m, m = bScale d q := ⟨_, rfl⟩
  have hm2 : bScale c r = m := by rw [hm, hq, hr, scale_comm c d hc hd]
  obtain ⟨f, hf⟩ : ∃ f, f = bFold l0 c l1 := ⟨_, rfl⟩
  have hf1 : f.size = l0.size := by rw [hf, fold_size _ _ _ h1.symm]
  have hf2 : bFold f c l1 = l0 := by rw [hf, fold_fold_back l0 c l1 h1]
  have c1 : Hid (∀ g b wx, St w g l0 l1 wx → Strs wx (some ⟨b, 0, none⟩) [l0, l1] → b < wx.heap.size → Calls Try.prog 15 #[.slice (some ⟨b, 0, none⟩) 2 2] wx fun e w' => e = .returned (.tuple #[.string p, .int .i64 0]) ∧ St w g l0 l1 w') := Lib.hid (fun g b wx h hst hb => by
    refine (add_calls (some ⟨b, 0, none⟩) 2 [l0, l1] (by simp) (by omega) (fun s hs => by simp at hs; rcases hs with rfl | rfl <;> omega) wx hst (fun x hx => by cases hx; exact hb)).mono ?_
    rw [fit_pair l0 l1 (by omega) (by omega), none_zero, add_pair, ← hp]
    rintro e w' ⟨rfl, b⟩; exact ⟨rfl, h.step b⟩)
  have c2 : Hid (∀ g b wx, St w g l0 l1 wx → Strs wx (some ⟨b, 0, none⟩) [p, l1] → b < wx.heap.size → Calls Try.prog 15 #[.slice (some ⟨b, 0, none⟩) 2 2] wx fun e w' => e = .returned (.tuple #[.string l0, .int .i64 0]) ∧ St w g l0 l1 w') := Lib.hid (fun g b wx h hst hb => by
    refine (add_calls (some ⟨b, 0, none⟩) 2 [p, l1] (by simp) (by omega) (fun s hs => by simp at hs; rcases hs with rfl | rfl <;> omega) wx hst (fun x hx => by cases hx; exact hb)).mono ?_
    rw [fit_pair p l1 (by omega) (by omega), none_zero, add_pair, hp2]
    rintro e w' ⟨rfl, b⟩; exact ⟨rfl, h.step b⟩)
  have c3 : Hid (∀ g b wx, St w g l0 l1 wx → Strs wx (some ⟨b, 0, none⟩) [l1, l0] → b < wx.heap.size → Calls Try.prog 15 #[.slice (some ⟨b, 0, none⟩) 2 2] wx fun e w' => e = .returned (.tuple #[.string p, .int .i64 0]) ∧ St w g l0 l1 w') := Lib.hid (fun g b wx h hst hb => by
    refine (add_calls (some ⟨b, 0, none⟩) 2 [l1, l0] (by simp) (by omega) (fun s hs => by simp at hs; rcases hs with rfl | rfl <;> omega) wx hst (fun x hx => by cases hx; exact hb)).mono ?_
    rw [fit_pair l1 l0 (by omega) (by omega), none_zero, add_pair, hp3]
    rintro e w' ⟨rfl, b⟩; exact ⟨rfl, h.step b⟩)
  have c4 : Hid (∀ g wx, St w g l0 l1 wx → Calls Try.prog 18 #[.int .u8 (c : Nat), .string l0] wx fun e w' => e = .returned (.tuple #[.string q, .int .i64 0]) ∧ St w g l0 l1 w') := Lib.hid (fun g wx h => by
    refine (scale_calls c hc l0 (by omega) wx).mono ?_
    rw [BulkLimitsW.fit_single l0 (by omega), none_zero, ← hq]
    rintro e w' ⟨rfl, b⟩; exact ⟨rfl, h.step b⟩)
  have c5 : Hid (∀ g wx, St w g l0 l1 wx → Calls Try.prog 18 #[.int .u8 (d : Nat), .string q] wx fun e w' => e = .returned (.tuple #[.string m, .int .i64 0]) ∧ St w g l0 l1 w') := Lib.hid (fun g wx h => by
    refine (scale_calls d hd q (by omega) wx).mono ?_
    rw [BulkLimitsW.fit_single q (by omega), none_zero, ← hm]
    rintro e w' ⟨rfl, b⟩; exact ⟨rfl, h.step b⟩)
  have c6 : Hid (∀ g wx, St w g l0 l1 wx → Calls Try.prog 18 #[.int .u8 (d : Nat), .string l0] wx fun e w' => e = .returned (.tuple #[.string r, .int .i64 0]) ∧ St w g l0 l1 w') := Lib.hid (fun g wx h => by
    refine (scale_calls d hd l0 (by omega) wx).mono ?_
    rw [BulkLimitsW.fit_single l0 (by omega), none_zero, ← hr]
    rintro e w' ⟨rfl, b⟩; exact ⟨rfl, h.step b⟩)
  have c7 : Hid (∀ g wx, St w g l0 l1 wx → Calls Try.prog 18 #[.int .u8 (c : Nat), .string r] wx fun e w' => e = .returned (.tuple #[.string m, .int .i64 0]) ∧ St w g l0 l1 w') := Lib.hid (fun g wx h => by
    refine (scale_calls c hc r (by omega) wx).mono ?_
    rw [BulkLimitsW.fit_single r (by omega), none_zero, hm2]
    rintro e w' ⟨rfl, b⟩; exact ⟨rfl, h.step b⟩)
  have c8 : Hid (∀ g wx, St w g l0 l1 wx → Calls Try.prog 20 #[.string l0, .int .u8 (c : Nat), .string l1] wx fun e w' => e = .returned (.tuple #[.string f, .int .i64 0]) ∧ St w g l0 l1 w') := Lib.hid (fun g wx h => by
    refine (fold_calls l0 c hc l1 (by omega) (by omega) wx).mono ?_
    rw [fit_pair l0 l1 (by omega) (by omega), none_zero, ← hf]
    rintro e w' ⟨rfl, b⟩; exact ⟨rfl, h.step b⟩)
  have c9 : Hid (∀ g wx, St w g l0 l1 wx → Calls Try.prog 20 #[.string f, .int .u8 (c : Nat), .string l1] wx fun e w' => e = .returned (.tuple #[.string l0, .int .i64 0]) ∧ St w g l0 l1 w') := Lib.hid (fun g wx h => by
    refine (fold_calls f c hc l1 (by omega) (by omega) wx).mono ?_
    rw [fit_pair f l1 (by omega) (by omega), none_zero, hf2]
    rintro e w' ⟨rfl, b⟩; exact ⟨rfl, h.step b⟩)
  clear hp hp1 hp2 hp3 hq hq1 hr hr1 hm hm2 hf hf1 hf2 h1
  go_enter Try.func5, Try.ntmps5
  go_wp2_with fail
  refine HC.out.mono ?_
  rintro e w1 ⟨v, rfl, hown, b1⟩
  obtain ⟨g, c', rfl, k1, k2, hS⟩ := St.of_own hown b1
  have hS0 : St w g l0 l1 w1 := ⟨hS.c0, hS.c1, bt (ba (br _) _) b1⟩
  clear hown b1 hS
  go_upto_region 2 with fail
  go_region_held3 (fun w' => w'.cell? ⟨g, 0, none⟩ = some (.string l0) ∧ w'.cell? ⟨g, 1, none⟩ = some (.string l1) ∧ St w g l0 l1 w') (first | exact St.three (by assumption) | exact hS0.drew.three | exact (hS0.alloc _).drew.three | exact (hS0.drew.alloc _).three) (first
    | (go_at_call 15; refine (c1.out g _ _ (by first | assumption | exact And.right (And.right (by assumption))) (by first | exact pair_strs _ _ _ _ | exact pair_strs_drew _ _ _ _) (by simp)).mono ?_; rintro e w' ⟨rfl, hS'⟩))
  obtain ⟨_, _, hS1⟩ := ‹_ ∧ _ ∧ St w g l0 l1 _›
  have x0 := hS1.c0
  have x1 := hS1.c1
  go_wp2_with fail
  refine (c2.out g _ _ (hS1.alloc _) (pair_strs _ _ _ _) (by simp)).mono ?_
  rintro e w3 ⟨rfl, hS2⟩
  clear x0 x1
  go_upto_region 4 with fail
  go_region_held3 (fun w' => w'.cell? ⟨g, 0, none⟩ = some (.string l0) ∧ w'.cell? ⟨g, 1, none⟩ = some (.string l1) ∧ St w g l0 l1 w') (first | exact St.three (by assumption) | exact hS2.drew.three | exact (hS2.alloc _).drew.three | exact (hS2.drew.alloc _).three) (first
    | (go_at_call 15; refine (c3.out g _ _ (by first | assumption | exact And.right (And.right (by assumption))) (by first | exact pair_strs _ _ _ _ | exact pair_strs_drew _ _ _ _) (by simp)).mono ?_; rintro e w' ⟨rfl, hS'⟩))
  obtain ⟨_, _, hS3⟩ := ‹_ ∧ _ ∧ St w g l0 l1 _›
  have x0 := hS3.c0
  have x1 := hS3.c1
  go_wp2_with fail
  refine (c4.out g _ hS3).mono ?_
  rintro e w5 ⟨rfl, hS4⟩
  clear x0 x1
  have x0 := hS4.c0
  have x1 := hS4.c1
  go_wp2_with fail
  refine (c5.out g _ hS4).mono ?_
  rintro e w6 ⟨rfl, hS5⟩
  clear x0 x1
  have x0 := hS5.c0
  have x1 := hS5.c1
  go_wp2_with fail
  refine (c6.out g _ hS5).mono ?_
  rintro e w7 ⟨rfl, hS6⟩
  clear x0 x1
  have x0 := hS6.c0
  have x1 := hS6.c1
  go_wp2_with fail
  refine (c7.out g _ hS6).mono ?_
  rintro e w8 ⟨rfl, hS7⟩
  clear x0 x1
  go_upto_region 9 with fail
  go_region_held3 (fun w' => w'.cell? ⟨g, 0, none⟩ = some (.string l0) ∧ w'.cell? ⟨g, 1, none⟩ = some (.string l1) ∧ St w g l0 l1 w') (first | exact St.three (by assumption) | exact hS7.drew.three | exact (hS7.alloc _).drew.three | exact (hS7.drew.alloc _).three) (first
    | (go_at_call 20; refine (c8.out g _ (by first | assumption | exact And.right (And.right (by assumption)))).mono ?_; rintro e w' ⟨rfl, hS'⟩))
  obtain ⟨_, _, hS8⟩ := ‹_ ∧ _ ∧ St w g l0 l1 _›
  have x0 := hS8.c0
  have x1 := hS8.c1
  go_wp2_with fail
  refine (c9.out g _ hS8).mono ?_
  rintro e w10 ⟨rfl, hS9⟩
  clear x0 x1
  go_wp2_with fail
  refine (wakes_calls _).mono ?_
  rintro e w30 ⟨rfl, b30⟩
  have hS30 := hS9.step b30
  have x0 := hS30.c0
  have x1 := hS30.c1
  go_wp2
  go_ret
  exact ⟨rfl, hS30.below⟩
end Go.Proofs.Ytgojbngdncligaa.BulkBackW
