/- A member's calls walked: alive, may, Write, Read. -/
import Derived.Test.YtahdhkhgokggbaaMb
import Derived.Test.YtahdhkhgokggbaaProg
import Derived.Test.YtahdhkhgokggbaaWWords
import Derived.WalkKit
import Derived.ProofKit
import Derived.OwnWalk
import Derived.Maps.AppendAt
import Derived.Laws.LoneSync
import Derived.Laws.Strings
namespace Go.Proofs.Ytahdhkhgokggbaa.Member
open Go.RowKit Go.Proofs.Ytahdhkhgokggbaa.Mem Go.Proofs.Ytahdhkhgokggbaa.Sep
open Go.Proofs.YtahdhkhgokggbaaW.PrintWords hiding bt
set_option linter.unusedVariables false
set_option linter.unusedSimpArgs false

section
variable {w0 w : World} {F : Nat} {m : Mb} {L : List Asn} {n : Nat}
theorem alive_nil (w : World) : Calls Try.prog 73 #[.pointer none] w fun e w' => e = .returned (.int .i64 1) ∧ w = w' := by
  go_enter Try.func73, Try.ntmps73
  go_wp2
  go_ret
  exact ⟨rfl, rfl⟩
/-- The cells of a member's box. -/
theorem box_cells {gl gn : Nat} {v : Value} (h : Blk w F (box n m gl gn v) 134) :
    w.cell? ⟨F, 0, none⟩ = some (.int .i64 m.r) ∧ w.cell? ⟨F, 1, none⟩ = some (.int .i64 m.w) ∧ w.cell? ⟨F, 2, none⟩ = some (.int .i64 m.f) ∧ w.cell? ⟨F, 3, none⟩ = some (.int .i64 m.p) ∧
    w.cell? ⟨F, 4, none⟩ = some (.slice (some ⟨gl, 0, none⟩) n n) ∧ w.cell? ⟨F, 5, none⟩ = some (.slice (some ⟨gn, 0, none⟩) n n) ∧ w.cell? ⟨F, 6, none⟩ = some v ∧ w.cell? ⟨F, 7, none⟩ = some (.bool m.dead) :=
  ⟨h.cell 0, h.cell 1, h.cell 2, h.cell 3, h.cell 4, h.cell 5, h.cell 6, h.cell 7⟩
theorem alive_calls (h : Sp w0 (member F n m :: L) w) : Calls Try.prog 73 #[.pointer (some ⟨F, 0, none⟩)] w fun e w' => e = .returned (.int .i64 (if m.dead then 22 else 0)) ∧ w = w' := by
  obtain ⟨ho, gl, gn, v, h⟩ := mbOpen h
  obtain ⟨_, _, _, _, _, _, _, c7⟩ := box_cells (h.blk (List.mem_cons_self ..))
  clear h
  obtain ⟨d, hd⟩ : ∃ d, d = m.dead := ⟨_, rfl⟩
  rw [← hd] at c7 ⊢
  clear hd
  cases d
  all_goals
    go_enter Try.func73, Try.ntmps73
    go_wp2
    go_ret
    exact ⟨rfl, rfl⟩
theorem alive_yes (h : Sp w0 (member F n m :: L) w) (hd : m.dead = false) : Calls Try.prog 73 #[.pointer (some ⟨F, 0, none⟩)] w fun e w' => e = .returned (.int .i64 0) ∧ w = w' := by
  have := alive_calls h
  rw [hd] at this; exact this
theorem alive_no (h : Sp w0 (member F n m :: L) w) (hd : m.dead = true) : Calls Try.prog 73 #[.pointer (some ⟨F, 0, none⟩)] w fun e w' => e = .returned (.int .i64 22) ∧ w = w' := by
  have := alive_calls h
  rw [hd] at this; exact this
theorem may_nil (i : Int) (w : World) : Calls Try.prog 71 #[.pointer none, .int .i64 i] w fun e w' => e = .returned (.int .i64 1) ∧ w = w' := by
  go_enter Try.func71, Try.ntmps71
  go_wp2_with fail
  refine (alive_nil w).mono ?_
  rintro e w' ⟨rfl, rfl⟩
  go_wp2
  go_ret
  exact ⟨rfl, rfl⟩
theorem may_calls (h : Sp w0 (member F n m :: L) w) (i : Int) : Calls Try.prog 71 #[.pointer (some ⟨F, 0, none⟩), .int .i64 i] w fun e w' => e = .returned (.int .i64 (m.may i)) ∧ w = w' := by
  have HA := Lib.hid (alive_calls h)
  obtain ⟨ho, gl, gn, v, h⟩ := mbOpen h
  obtain ⟨_, _, _, _, _, c5, _, c7⟩ := box_cells (h.blk (List.mem_cons_self ..))
  clear h c7
  obtain ⟨k, hk⟩ : ∃ k, k = m.may i := ⟨_, rfl⟩
  rw [← hk]
  unfold Mb.may at hk
  cases hd : m.dead
  · rw [hd] at HA hk
    have HA : Hid (Calls Try.prog 73 #[.pointer (some ⟨F, 0, none⟩)] w fun e w' => e = .returned (.int .i64 0) ∧ w = w') := HA
    rw [ho.now] at hk
    obtain ⟨N, hN⟩ : ∃ N, N = n := ⟨_, rfl⟩
    rw [← hN] at c5 hk
    clear hN hd ho
    by_cases h1 : i < 0
    · rw [if_neg (by decide), if_pos (.inl h1)] at hk
      subst hk
      have d1 : decide (i < 0) = true := decide_eq_true h1
      go_enter Try.func71, Try.ntmps71
      go_wp2_with fail
      refine HA.out.mono ?_
      rintro e w' ⟨rfl, rfl⟩
      go_wp2
      go_ret
      exact ⟨rfl, rfl⟩
    · have d1 : decide (i < 0) = false := decide_eq_false h1
      by_cases h2 : (N : Int) ≤ i
      · rw [if_neg (by decide), if_pos (.inr h2)] at hk
        subst hk
        have d2 : decide ((N : Int) ≤ i) = true := decide_eq_true h2
        go_enter Try.func71, Try.ntmps71
        go_wp2_with fail
        refine HA.out.mono ?_
        rintro e w' ⟨rfl, rfl⟩
        go_wp2
        go_ret
        exact ⟨rfl, rfl⟩
      · rw [if_neg (by decide), if_neg (by omega)] at hk
        subst hk
        have d2 : decide ((N : Int) ≤ i) = false := decide_eq_false h2
        go_enter Try.func71, Try.ntmps71
        go_wp2_with fail
        refine HA.out.mono ?_
        rintro e w' ⟨rfl, rfl⟩
        go_wp2
        go_ret
        exact ⟨rfl, rfl⟩
  · rw [hd] at HA hk
    have HA : Hid (Calls Try.prog 73 #[.pointer (some ⟨F, 0, none⟩)] w fun e w' => e = .returned (.int .i64 22) ∧ w = w') := HA
    rw [if_pos rfl] at hk
    subst hk
    clear hd
    go_enter Try.func71, Try.ntmps71
    go_wp2_with fail
    refine HA.out.mono ?_
    rintro e w' ⟨rfl, rfl⟩
    go_wp2
    go_ret
    exact ⟨rfl, rfl⟩
/-- The counts. -/
theorem add_calls (b o : Nat) (x : Int) (w : World) (hc : w.cell? ⟨b, o, none⟩ = some (.int .i64 x)) (hz : w.frozen? ⟨b, o, none⟩ = false) :
    Calls Try.prog 72 #[.pointer (some ⟨b, o, none⟩), .int .i64 1] w fun e w' => e = .returned (.int .i64 (wrap64 (x + 1))) ∧ w' = w.setCell ⟨b, o, none⟩ (.int .i64 (wrap64 (x + 1))) := by
  have hr : (callFunc 110 #[.pointer (some ⟨b, o, none⟩), .int .i64 1]).run Try.prog w = .ok (.value (.int .i64 (wrap64 (x + 1)))) (w.setCell ⟨b, o, none⟩ (.int .i64 (wrap64 (x + 1)))) :=
    run_call_add Try.func110 (by kernel_rfl) (by kernel_rfl) (by kernel_rfl) .i64 (by kernel_rfl) hc hz (by simp [go_sem, wrap64, IntKind.wrap_i64])
  go_enter Try.func72, Try.ntmps72
  go_wp2
  go_ret
  exact ⟨rfl, rfl⟩
end
end Go.Proofs.Ytahdhkhgokggbaa.Member
