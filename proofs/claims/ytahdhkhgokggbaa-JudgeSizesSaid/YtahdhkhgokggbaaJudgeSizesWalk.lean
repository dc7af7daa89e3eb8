/- JudgeSizes: of how many blocks a flat disk may be is the document's answer; walked. -/
import Derived.Test.YtahdhkhgokggbaaJudgeW
namespace Go.Proofs.Ytahdhkhgokggbaa.JudgeSizesW
open Go.RowKit Go.Proofs.Ytahdhkhgokggbaa.Mem Go.Proofs.Ytahdhkhgokggbaa.Judge
open Go.Proofs.YtahdhkhgokggbaaW.PrintWords hiding bt
set_option linter.unusedVariables false
set_option linter.unusedSimpArgs false

set_option maxHeartbeats 4000000 in
set_option maxRecDepth 100000 in
theorem walk (a0 : Int) (w : World) (w0 : (Lit.int .i64 a0).wf = true) :
    Calls Try.prog 7 #[.int .i64 a0] w fun e w' => e = .returned (.bool true) ∧ Below w.heap.size w w' := by
  obtain ⟨m, hm⟩ : ∃ m : Int, m = bits BinOp.and IntKind.i64 a0 4095 := ⟨_, rfl⟩
  go_enter Try.func7, Try.ntmps7
  go_wp2
  rw [← hm]
  clear hm w0
  obtain ⟨B, hB⟩ : ∃ B, B = w.heap.size := ⟨_, rfl⟩
  have hblk : Blk (w.alloc (.cells #[.int .i64 a0, .int .i64 m] 3)) B #[.int .i64 a0, .int .i64 m] 3 := by rw [hB]; exact Blk.new _ _ _
  rw [← hB]
  clear hB
  go_loopw [17] (fun i wr => (i = .int .i64 0 ∨ i = .int .i64 1 ∨ i = .int .i64 2) ∧ Blk wr B #[.int .i64 a0, .int .i64 m] 3 ∧ Below w.heap.size w wr) (fun i _ => 2 - (intOf i).toNat)
  case atStart => exact ⟨.inl rfl, hblk, ba (br _) _⟩
  case round =>
    obtain ⟨hi, hb, hbel⟩ := hrel
    have c0 : wr.cell? ⟨B, 0, none⟩ = some (.int .i64 a0) := hb.cell 0
    have c1 : wr.cell? ⟨B, 1, none⟩ = some (.int .i64 m) := hb.cell 1
    rcases hi with rfl | rfl | rfl
    · by_cases hy : 1 ≤ a0 ∧ a0 ≤ 2048
      · obtain ⟨k, hk⟩ : ∃ k : Nat, a0 = k := ⟨a0.toNat, by omega⟩
        have HN := Lib.hid (fun (wx : World) => new_yes k (by omega) (by omega) wx)
        rw [← hk] at HN
        have d1 : decide (1 ≤ a0) = true := decide_eq_true hy.1
        have d2 : decide (a0 ≤ 2048) = true := decide_eq_true hy.2
        have d3 := hy.1
        have d4 := hy.2
        clear hk hy
        go_wp2_with fail
        refine (HN.out _).mono ?_
        rintro e w2 ⟨rfl, _, b2⟩
        have hb2 := hb.below b2 hb.lt
        have hbel2 := bt hbel b2
        go_wp2
        go_roundw
        case measure => simp [intOf]
        case rel => exact ⟨.inr (.inl rfl), hb2, hbel2⟩
      · have HN := Lib.hid (fun (wx : World) => new_no a0 (by omega) wx)
        go_wp2_with fail
        refine (HN.out _).mono ?_
        rintro e w2 ⟨rfl, ⟨nd, rfl⟩⟩
        by_cases h1 : 1 ≤ a0
        · have d1 : decide (1 ≤ a0) = true := decide_eq_true h1
          have h2 : ¬ a0 ≤ 2048 := by omega
          have d2 : decide (a0 ≤ 2048) = false := decide_eq_false h2
          go_wp2
          go_roundw
          case measure => simp [intOf]
          case rel => exact ⟨.inr (.inl rfl), hb.drewN nd, bd hbel nd⟩
        · have d1 : decide (1 ≤ a0) = false := decide_eq_false h1
          go_wp2
          go_roundw
          case measure => simp [intOf]
          case rel => exact ⟨.inr (.inl rfl), hb.drewN nd, bd hbel nd⟩
    · by_cases hy : 1 ≤ m ∧ m ≤ 2048
      · obtain ⟨k, hk⟩ : ∃ k : Nat, m = k := ⟨m.toNat, by omega⟩
        have HN := Lib.hid (fun (wx : World) => new_yes k (by omega) (by omega) wx)
        rw [← hk] at HN
        have d1 : decide (1 ≤ m) = true := decide_eq_true hy.1
        have d2 : decide (m ≤ 2048) = true := decide_eq_true hy.2
        have d3 := hy.1
        have d4 := hy.2
        clear hk hy
        go_wp2_with fail
        refine (HN.out _).mono ?_
        rintro e w2 ⟨rfl, _, b2⟩
        have hb2 := hb.below b2 hb.lt
        have hbel2 := bt hbel b2
        go_wp2
        go_roundw
        case measure => simp [intOf]
        case rel => exact ⟨.inr (.inr rfl), hb2, hbel2⟩
      · have HN := Lib.hid (fun (wx : World) => new_no m (by omega) wx)
        go_wp2_with fail
        refine (HN.out _).mono ?_
        rintro e w2 ⟨rfl, ⟨nd, rfl⟩⟩
        by_cases h1 : 1 ≤ m
        · have d1 : decide (1 ≤ m) = true := decide_eq_true h1
          have h2 : ¬ m ≤ 2048 := by omega
          have d2 : decide (m ≤ 2048) = false := decide_eq_false h2
          go_wp2
          go_roundw
          case measure => simp [intOf]
          case rel => exact ⟨.inr (.inr rfl), hb.drewN nd, bd hbel nd⟩
        · have d1 : decide (1 ≤ m) = false := decide_eq_false h1
          go_wp2
          go_roundw
          case measure => simp [intOf]
          case rel => exact ⟨.inr (.inr rfl), hb.drewN nd, bd hbel nd⟩
    · go_wp2_with fail
      refine (get_no a0 1 (by decide) _ _ (at_nil a0 _)).mono ?_
      rintro e w2 ⟨rfl, ⟨n2, rfl⟩⟩
      go_wp2_with fail
      refine (fits_nil _ _).mono ?_
      rintro e w3 ⟨rfl, ⟨n3, rfl⟩⟩
      go_wp2_with fail
      refine (sync_nil _).mono ?_
      rintro e w4 ⟨rfl, ⟨n4, rfl⟩⟩
      go_wp2_with fail
      refine (wakes_calls _).mono ?_
      rintro e w5 ⟨rfl, b5⟩
      go_wp2_with fail
      refine (put_nil _ _ _ _).mono ?_
      rintro e w6 ⟨rfl, ⟨n6, rfl⟩⟩
      go_wp2_with fail
      refine (settle_nil _ _).mono ?_
      rintro e w7 ⟨rfl, ⟨n7, rfl⟩⟩
      go_wp2_with fail
      refine (may_no a0 1 (by decide) _ _ _ (at_nil a0 _)).mono ?_
      rintro e w8 ⟨rfl, ⟨n8, rfl⟩⟩
      go_wp2_with fail
      refine (ways_no a0 1 (by decide) _ _ (at_nil a0 _)).mono ?_
      rintro e w9 ⟨rfl, ⟨n9, rfl⟩⟩
      go_wp2_with fail
      refine (blocks_nil _).mono ?_
      rintro e w10 ⟨rfl, ⟨n10, rfl⟩⟩
      go_wp2
      go_ret
      exact ⟨rfl, bd (bt (bd hbel _) b5) _⟩
end Go.Proofs.Ytahdhkhgokggbaa.JudgeSizesW
