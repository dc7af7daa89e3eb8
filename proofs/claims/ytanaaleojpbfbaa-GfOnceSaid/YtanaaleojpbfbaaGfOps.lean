/- gf.Field's calls: products, quotients, powers, logarithms, by tables; of a nil field nothing. -/
import Derived.Test.YtanaaleojpbfbaaGf
namespace Go.Proofs.Ytanaaleojpbfbaa.Gf
open Go.RowKit Go.Proofs.Ytanaaleojpbfbaa.Mem Go.Proofs.Ytanaaleojpbfbaa.Gmul Go.Proofs.YtanaaleojpbfbaaW.PrintWords
set_option linter.unusedVariables false
set_option linter.unusedSimpArgs false

theorem fld_log {w : World} {b : Nat} (h : Fld true w b) (a : Nat) (ha : a < 256) : w.cell? ⟨b, 4 + a, none⟩ = some (.int .i64 (lg a)) := by
  unfold Fld at h
  simp only [if_true] at h
  rw [h.cell, cells_log _ _ _ _ _ a (by rw [lgL_length]; exact ha)]
  simp [lgL, List.getD_eq_getElem?_getD, ha, lg]
theorem fld_exp {w : World} {b : Nat} (h : Fld true w b) (i : Nat) (hi : i < 510) : w.cell? ⟨b, 260 + i, none⟩ = some (.int .u8 (pw i)) := by
  unfold Fld at h
  simp only [if_true] at h
  rw [h.cell, cells_exp _ _ _ _ _ (lgL_length 255) i (by rw [exL_length]; exact hi)]
  have : exTo 255 i = pw i := by
    unfold exTo
    by_cases h1 : i < 255
    · rw [if_pos h1, if_pos h1]
    · rw [if_neg h1, if_pos (by omega), ← pw_period, show i - 255 + 255 = i by omega]
  simp [exL, List.getD_eq_getElem?_getD, hi, this]
/-- What a quotient, a logarithm come to, with their errors; how often made. -/
def quo (a c : Nat) : Nat := if c = 0 then 0 else gdiv a c
def zerr (c : Nat) : Int := if c = 0 then 5 else 0
def lgOr (a : Nat) : Nat := if a = 0 then 0 else lg a
def madeN (st : Bool) : Int := if st then 1 else 0
theorem fld_made {w : World} {b : Nat} {st : Bool} (h : Fld st w b) : w.cell? ⟨b, 3, none⟩ = some (.int .i64 (madeN st)) := by
  unfold Fld at h
  unfold madeN
  cases st
  · simp only [Bool.false_eq_true, if_false] at h ⊢; rw [h.cell, cells_made]
  · simp only [if_true] at h ⊢; rw [h.cell, cells_made]

set_option maxHeartbeats 1000000 in
set_option maxRecDepth 100000 in
theorem mul_calls (b : Nat) (st : Bool) (a c : Nat) (ha : a < 256) (hc : c < 256) (w : World) (h : Fld st w b) :
    Calls Try.prog 24 #[.pointer (some ⟨b, 0, none⟩), .int .u8 a, .int .u8 c] w fun e w' => e = .returned (.int .u8 (gmul a c)) ∧ (Fld true w' b ∧ Keep (· = b) w w') := by
  by_cases h0 : a = 0
  · subst h0
    have hg := Lib.hid (gmul_zero_left c)
    go_enter Try.func24, Try.ntmps24
    go_wp2_with (go_at_call 42; refine (ready_calls b st _ h).mono ?_; rintro e w' ⟨rfl, hr, hk⟩)
    go_ret
    exact ⟨by rw [hg.out]; rfl, hr, hk⟩
  · by_cases h1 : c = 0
    · subst h1
      have hg := Lib.hid (gmul_zero_right a)
      have d0 : ((a : Int) == 0) = false := by rw [beq_eq_false_iff_ne]; omega
      go_enter Try.func24, Try.ntmps24
      go_wp2_with (go_at_call 42; refine (ready_calls b st _ h).mono ?_; rintro e w' ⟨rfl, hr, hk⟩)
      go_ret
      exact ⟨by rw [hg.out]; rfl, hr, hk⟩
    · have d0 : ((a : Int) == 0) = false := by rw [beq_eq_false_iff_ne]; omega
      have d1 : ((c : Int) == 0) = false := by rw [beq_eq_false_iff_ne]; omega
      have la := lg_lt a
      have lc := lg_lt c
      have hg : pw (lg a + lg c) = gmul a c := by rw [← pw_add, pw_lg a h0 ha, pw_lg c h1 hc]
      have HG := Lib.hid hg
      obtain ⟨x, hx⟩ : ∃ x, x = lg a := ⟨_, rfl⟩
      obtain ⟨y, hy⟩ : ∃ y, y = lg c := ⟨_, rfl⟩
      rw [← hx] at la
      rw [← hy] at lc
      have HXY := Lib.hid (And.intro hx hy)
      clear hg hx hy h0 h1
      go_enter Try.func24, Try.ntmps24
      go_wp2_with (go_at_call 42; refine (ready_calls b st _ h).mono ?_; rintro e w' ⟨rfl, hr, hk⟩; have c1 := fld_log hr a ha; have c2 := fld_log hr c hc; have c3 := fld_exp hr (x + y) (by omega); rw [← HXY.out.1] at c1; rw [← HXY.out.2] at c2)
      go_quiet (fail)
      go_wp2
      go_ret
      exact ⟨by rw [← HG.out, ← HXY.out.1, ← HXY.out.2]; rfl, hr, hk.drewN _⟩

set_option maxHeartbeats 1000000 in
set_option maxRecDepth 100000 in
theorem div_calls (b : Nat) (st : Bool) (a c : Nat) (ha : a < 256) (hc : c < 256) (w : World) (h : Fld st w b) :
    Calls Try.prog 32 #[.pointer (some ⟨b, 0, none⟩), .int .u8 a, .int .u8 c] w fun e w' => e = .returned (.tuple #[.int .u8 (quo a c), .int .i64 (zerr c)]) ∧ (Fld true w' b ∧ Keep (· = b) w w') := by
  by_cases h1 : c = 0
  · subst h1
    go_enter Try.func32, Try.ntmps32
    go_wp2_with (go_at_call 42; refine (ready_calls b st _ h).mono ?_; rintro e w' ⟨rfl, hr, hk⟩)
    go_ret2
    exact ⟨rfl, hr, hk⟩
  · have d1 : ((c : Int) == 0) = false := by rw [beq_eq_false_iff_ne]; omega
    by_cases h0 : a = 0
    · subst h0
      have e1 : quo 0 c = 0 := by unfold quo; rw [if_neg h1]; rfl
      have e2 : zerr c = 0 := by unfold zerr; rw [if_neg h1]
      have E1 := Lib.hid (And.intro e1 e2)
      clear e1 e2 h1
      go_enter Try.func32, Try.ntmps32
      go_wp2_with (go_at_call 42; refine (ready_calls b st _ h).mono ?_; rintro e w' ⟨rfl, hr, hk⟩)
      go_ret2
      exact ⟨by rw [E1.out.1, E1.out.2]; rfl, hr, hk⟩
    · have d0 : ((a : Int) == 0) = false := by rw [beq_eq_false_iff_ne]; omega
      have la := lg_lt a
      have lc := lg_lt c
      have e1 : quo a c = pw (lg a + 255 - lg c) := by unfold quo; rw [if_neg h1]; unfold gdiv; rw [if_neg h0]
      have e2 : zerr c = 0 := by unfold zerr; rw [if_neg h1]
      obtain ⟨x, hx⟩ : ∃ x, x = lg a := ⟨_, rfl⟩
      obtain ⟨y, hy⟩ : ∃ y, y = lg c := ⟨_, rfl⟩
      rw [← hx] at la e1
      rw [← hy] at lc e1
      have E1 := Lib.hid (And.intro e1 e2)
      have HXY := Lib.hid (And.intro hx hy)
      clear e1 e2 hx hy h0 h1
      go_enter Try.func32, Try.ntmps32
      go_wp2_with (go_at_call 42; refine (ready_calls b st _ h).mono ?_; rintro e w' ⟨rfl, hr, hk⟩; have c1 := fld_log hr a ha; have c2 := fld_log hr c hc; have c3 := fld_exp hr (x + 255 - y) (by omega); rw [← HXY.out.1] at c1; rw [← HXY.out.2] at c2; have ti : ((x : Int) + 255 - y).toNat = x + 255 - y := (by omega); have TI := Lib.hid ti; clear ti)
      have t1 : 0 ≤ (x : Int) + 255 - y := by omega
      have t2 : ((x : Int) + 255 - y).toNat = x + 255 - y := by omega
      go_quiet (fail)
      clear t2
      go_wp2
      go_ret2
      exact ⟨by rw [E1.out.1, E1.out.2]; rfl, hr, hk.drewN _⟩

set_option maxHeartbeats 1000000 in
set_option maxRecDepth 100000 in
theorem log_calls (b : Nat) (st : Bool) (a : Nat) (ha : a < 256) (w : World) (h : Fld st w b) :
    Calls Try.prog 33 #[.pointer (some ⟨b, 0, none⟩), .int .u8 a] w fun e w' => e = .returned (.tuple #[.int .i64 (lgOr a), .int .i64 (zerr a)]) ∧ (Fld true w' b ∧ Keep (· = b) w w') := by
  by_cases h0 : a = 0
  · subst h0
    go_enter Try.func33, Try.ntmps33
    go_wp2_with (go_at_call 42; refine (ready_calls b st _ h).mono ?_; rintro e w' ⟨rfl, hr, hk⟩)
    go_ret2
    exact ⟨rfl, hr, hk⟩
  · have d0 : ((a : Int) == 0) = false := by rw [beq_eq_false_iff_ne]; omega
    have e1 : lgOr a = lg a := by unfold lgOr; rw [if_neg h0]
    have e2 : zerr a = 0 := by unfold zerr; rw [if_neg h0]
    have E1 := Lib.hid (And.intro e1 e2)
    clear e1 e2 h0
    go_enter Try.func33, Try.ntmps33
    go_wp2_with (go_at_call 42; refine (ready_calls b st _ h).mono ?_; rintro e w' ⟨rfl, hr, hk⟩; have c1 := fld_log hr a ha)
    go_ret2
    exact ⟨by rw [E1.out.1, E1.out.2]; rfl, hr, hk⟩

/-- Which of the 255 powers. -/
def ix (n : Int) : Nat := (n % 255).toNat
theorem ix_go (n : Int) : 0 ≤ n.tmod 255 + 255 ∧ n.tmod 255 + 255 ≤ 509 ∧ (n.tmod 255 + 255) % 255 = (ix n : Int) := by
  unfold ix
  rcases Int.le_total 0 n with h | h
  · rw [Int.tmod_eq_emod_of_nonneg h]; omega
  · obtain ⟨m, rfl⟩ : ∃ m : Nat, n = -(m : Int) := ⟨n.natAbs, by omega⟩
    rw [Int.neg_tmod, Int.tmod_eq_emod_of_nonneg (by omega)]; omega
set_option maxHeartbeats 1000000 in
set_option maxRecDepth 100000 in
theorem exp_calls (b : Nat) (st : Bool) (n : Int) (w : World) (h : Fld st w b) :
    Calls Try.prog 34 #[.pointer (some ⟨b, 0, none⟩), .int .i64 n] w fun e w' => e = .returned (.int .u8 (pw (ix n))) ∧ (Fld true w' b ∧ Keep (· = b) w w') := by
  have hix : ix n < 255 := by unfold ix; omega
  obtain ⟨g1, g2, g3⟩ := ix_go n
  obtain ⟨x, hx⟩ : ∃ x, x = ix n := ⟨_, rfl⟩
  rw [← hx] at hix g3 ⊢
  clear hx
  have g4 : 0 ≤ (n.tmod 255 + 255) % 255 := by omega
  have g5 : (n.tmod 255 % 255).toNat = x := by omega
  have g6 : 0 ≤ n.tmod 255 % 255 ∧ n.tmod 255 % 255 < 510 := by omega
  have G3 := Lib.hid g3
  clear g3
  go_enter Try.func34, Try.ntmps34
  go_wp2_with (go_at_call 42; refine (ready_calls b st _ h).mono ?_; rintro e w' ⟨rfl, hr, hk⟩; have c3 := fld_exp hr x (by omega))
  go_ret
  exact ⟨rfl, hr, hk⟩

set_option maxRecDepth 100000 in
theorem made_calls (b : Nat) (st : Bool) (w : World) (h : Fld st w b) :
    Calls Try.prog 39 #[.pointer (some ⟨b, 0, none⟩)] w fun e w' => e = .returned (.int .i64 (madeN st)) ∧ w = w' := by
  have hl := run_call_load (P := Try.prog) Try.func49 (by kernel_rfl) (by kernel_rfl) (by kernel_rfl) .i64 (by kernel_rfl) (fld_made h)
  go_enter Try.func39, Try.ntmps39
  go_wp2
  go_ret
  exact ⟨rfl, rfl⟩
theorem made_nil (w : World) : Calls Try.prog 39 #[.pointer none] w fun e w' => e = .returned (.int .i64 0) ∧ w = w' := by
  go_enter Try.func39, Try.ntmps39
  go_wp2
  go_ret
  exact ⟨rfl, rfl⟩
theorem mul_nil (a c : Int) (w : World) : Calls Try.prog 24 #[.pointer none, .int .u8 a, .int .u8 c] w fun e w' => e = .returned (.int .u8 0) ∧ w = w' := by
  go_enter Try.func24, Try.ntmps24
  go_wp2
  go_ret
  exact ⟨rfl, rfl⟩
theorem div_nil (a c : Int) (w : World) : Calls Try.prog 32 #[.pointer none, .int .u8 a, .int .u8 c] w fun e w' => e = .returned (.tuple #[.int .u8 0, .int .i64 1]) ∧ w = w' := by
  go_enter Try.func32, Try.ntmps32
  go_wp2
  go_ret2
  exact ⟨rfl, rfl⟩
theorem log_nil (a : Int) (w : World) : Calls Try.prog 33 #[.pointer none, .int .u8 a] w fun e w' => e = .returned (.tuple #[.int .i64 0, .int .i64 1]) ∧ w = w' := by
  go_enter Try.func33, Try.ntmps33
  go_wp2
  go_ret2
  exact ⟨rfl, rfl⟩
theorem exp_nil (n : Int) (w : World) : Calls Try.prog 34 #[.pointer none, .int .i64 n] w fun e w' => e = .returned (.int .u8 0) ∧ w = w' := by
  go_enter Try.func34, Try.ntmps34
  go_wp2
  go_ret
  exact ⟨rfl, rfl⟩
end Go.Proofs.Ytanaaleojpbfbaa.Gf
