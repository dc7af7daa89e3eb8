/- BayNil: of a nil bay, and of members that there aren't, nothing is had, and no step is made; walked. -/
import Derived.Test.YtahdhkhgokggbaaBayLaw
namespace Go.Proofs.Ytahdhkhgokggbaa.BayNilW
open Go.RowKit Go.Proofs.Ytahdhkhgokggbaa.Mem Go.Proofs.Ytahdhkhgokggbaa.Sep Go.Proofs.Ytahdhkhgokggbaa.Opn Go.Proofs.Ytahdhkhgokggbaa.Member Go.Proofs.Ytahdhkhgokggbaa.Bay
open Go.Proofs.YtahdhkhgokggbaaW.PrintWords hiding bt
set_option linter.unusedVariables false
set_option linter.unusedSimpArgs false

theorem cap3 : cap 3 = 3 := by decide
set_option maxHeartbeats 8000000 in
set_option maxRecDepth 100000 in
theorem walk (a0 : Array Value) (w : World) (f0 : Rd w bmSh a0.toList) :
    Calls Try.prog 12 #[.agg a0] w fun e w' => e = .returned (.bool true) ∧ Below w.heap.size w w' := by
  obtain ⟨c, hok, rfl⟩ := rd_barg f0
  obtain ⟨cx, ci, ct, cd, co, ka, kc, KA⟩ := c
  have h0 := (Sp.start w).new #[.int .i64 cx, .int .i64 ci, .int .i64 ct, .int .u8 (cd.toNat : Int), .bool co, .slice ka KA.length kc] 96
  have hb0 := h0.blk (List.mem_cons_self ..)
  have HNEW := Lib.hid (bnew_calls h0 2 3)
  obtain ⟨q, hq⟩ : ∃ q, q = w.heap.size := ⟨_, rfl⟩
  rw [← hq] at HNEW hb0
  have HQ := Lib.hid hq.symm
  unfold Bm.cells
  dsimp only
  obtain ⟨kl, hkl⟩ : ∃ kl, kl = KA.length := ⟨_, rfl⟩
  rw [← hkl] at HNEW ⊢
  clear h0 hq hok f0 hb0 hkl
  go_enter Try.func12, Try.ntmps12
  go_wp2_with fail
  have hq := HQ.out
  rw [hq]
  clear hq
  refine HNEW.out.mono ?_
  rintro e w1 ⟨P, ps, rfl, h1⟩
  rw [caps2, cap3] at h1
  have c1 := (h1.blk (b := q) (List.mem_cons_of_mem _ (List.mem_cons_self ..))).cell 1
  have c2 := (h1.blk (b := q) (List.mem_cons_of_mem _ (List.mem_cons_self ..))).cell 2
  have c1 : w1.cell? ⟨q, 1, none⟩ = some (.int .i64 ci) := c1
  have c2 : w1.cell? ⟨q, 2, none⟩ = some (.int .i64 ct) := c2
  have H1 := Lib.hid h1
  clear h1 HNEW
  go_wp2_with fail
  refine (bread_nil _ _ _).mono ?_
  rintro e w' ⟨rfl, rfl⟩
  go_wp2_with fail
  refine (cut_nil _ _).mono ?_
  rintro e w' ⟨rfl, rfl⟩
  go_wp2_with fail
  refine (bcrash_nil _ _ _ _).mono ?_
  rintro e w' ⟨rfl, rfl⟩
  clear c1 c2
  go_wp2_with fail
  refine (bwakes_calls _).mono ?_
  rintro e w2 ⟨rfl, b2⟩
  have h2 := H1.out.step b2
  have c1 : w2.cell? ⟨q, 1, none⟩ = some (.int .i64 ci) := (h2.blk (b := q) (List.mem_cons_of_mem _ (List.mem_cons_self ..))).cell 1
  have c2 : w2.cell? ⟨q, 2, none⟩ = some (.int .i64 ct) := (h2.blk (b := q) (List.mem_cons_of_mem _ (List.mem_cons_self ..))).cell 2
  have H2 := Lib.hid h2
  clear h2 b2 H1
  go_wp2_with fail
  refine (bsize_nil _).mono ?_
  rintro e w' ⟨rfl, rfl⟩
  go_wp2_with fail
  refine (bmember_nil _ _).mono ?_
  rintro e w' ⟨rfl, rfl⟩
  go_wp2_with fail
  refine (bwrite_nil _ _ _ _).mono ?_
  rintro e w' ⟨rfl, rfl⟩
  go_wp2_with fail
  refine (bflush_nil _ _).mono ?_
  rintro e w' ⟨rfl, rfl⟩
  go_wp2_with fail
  refine (off_nil _).mono ?_
  rintro e w' ⟨rfl, rfl⟩
  go_wp2_with fail
  refine (blive_nil _).mono ?_
  rintro e w' ⟨rfl, rfl⟩
  go_wp2_with fail
  refine (steps_nil _).mono ?_
  rintro e w' ⟨rfl, rfl⟩
  by_cases hin : 0 ≤ ci ∧ ci < 2
  · obtain ⟨j, rfl⟩ : ∃ j : Nat, ci = j := ⟨ci.toNat, by omega⟩
    have j0 : (0 : Int) ≤ (j : Int) := by omega
    have d0 : decide ((0 : Int) ≤ (j : Int)) = true := decide_eq_true j0
    have d1 : decide ((j : Int) < 2) = true := decide_eq_true (by omega)
    obtain ⟨_, _, hbd⟩ := bds H2.out
    obtain ⟨p, hp⟩ : ∃ p, ps[j]? = some p := ⟨_, List.getElem?_eq_getElem (by rw [hbd.len]; show j < 2; omega)⟩
    have HM := Lib.hid (bmember_yes H2.out j p hp)
    have HB := Lib.hid H2.out.bel
    clear hbd hp hin c2
    go_wp2_with fail
    refine HM.out.mono ?_
    rintro e w' ⟨rfl, rfl⟩
    go_wp2
    go_ret
    exact ⟨rfl, HB.out⟩
  · have hth : (By.fresh 2 3).thereE ci ≠ 0 := by
      unfold By.thereE
      have hl : (By.fresh 2 3).M.length = 2 := rfl
      rw [hl, if_neg (by omega)]; decide
    have HR := Lib.hid (bread_calls H2.out ci ct)
    have hr1 : (By.fresh 2 3).get ci ct = ⟨#[]⟩ := by unfold By.get; rw [if_pos (.inl hth)]
    have hr2 : (By.fresh 2 3).readE ci ct = 11 := by unfold By.readE; rw [if_pos hth]
    rw [hr1, hr2] at HR
    have hd : decide ((0 : Int) ≤ ci) = false ∨ (decide ((0 : Int) ≤ ci) = true ∧ decide (ci < 2) = false) := by
      by_cases h : 0 ≤ ci
      · exact .inr ⟨decide_eq_true h, decide_eq_false (by omega)⟩
      · exact .inl (decide_eq_false h)
    have HTH := Lib.hid (And.intro hth hin)
    clear hth hin hr1 hr2
    rcases hd with d0 | ⟨d0, d1⟩
    all_goals
      go_wp2_with fail
      refine HR.out.mono ?_
      rintro e w3 ⟨rfl, h3⟩
      have c1 : w3.cell? ⟨q, 1, none⟩ = some (.int .i64 ci) := (h3.blk (b := q) (List.mem_cons_of_mem _ (List.mem_cons_self ..))).cell 1
      have c2 : w3.cell? ⟨q, 2, none⟩ = some (.int .i64 ct) := (h3.blk (b := q) (List.mem_cons_of_mem _ (List.mem_cons_self ..))).cell 2
      have HM := Lib.hid (bmember_no h3 ci HTH.out.2)
      have hw := bwrite_calls h3 (by intro m hm; have := List.eq_of_mem_replicate hm; rw [this]; simp [Mb.fresh]) ci ct ⟨#[]⟩
      have hw1 : (By.fresh 2 3).writeE ci ct ⟨#[]⟩ = 11 := by unfold By.writeE; rw [if_pos HTH.out.1]
      have hw2 : (By.fresh 2 3).write ci ct ⟨#[]⟩ = By.fresh 2 3 := by unfold By.write; rw [if_pos HTH.out.1]
      rw [hw1, hw2] at hw
      have HW := Lib.hid hw
      clear h3 hw hw1 hw2 H2 HR
      go_wp2_with fail
      refine HM.out.mono ?_
      rintro e w' ⟨rfl, rfl⟩
      go_wp2_with fail
      refine HW.out.mono ?_
      rintro e w4 ⟨rfl, h4⟩
      have c1 : w4.cell? ⟨q, 1, none⟩ = some (.int .i64 ci) := (h4.blk (b := q) (List.mem_cons_of_mem _ (List.mem_cons_self ..))).cell 1
      have hf := bflush_calls h4 ci
      have hw1 : (By.fresh 2 3).flushE ci = 11 := by unfold By.flushE; rw [if_pos HTH.out.1]
      have hw2 : (By.fresh 2 3).flush ci = By.fresh 2 3 := by unfold By.flush; rw [if_pos HTH.out.1]
      rw [hw1, hw2] at hf
      have HF := Lib.hid hf
      clear h4 hf hw1 hw2 HW
      go_wp2_with fail
      refine HF.out.mono ?_
      rintro e w5 ⟨rfl, h5⟩
      have HS := Lib.hid (steps_calls h5)
      have HB := Lib.hid h5.bel
      clear h5 HF
      go_wp2_with fail
      refine HS.out.mono ?_
      rintro e w' ⟨rfl, rfl⟩
      have hst : (By.fresh 2 3).steps = 0 := rfl
      rw [hst]
      clear hst
      go_wp2
      go_ret
      exact ⟨rfl, HB.out⟩
end Go.Proofs.Ytahdhkhgokggbaa.BayNilW
