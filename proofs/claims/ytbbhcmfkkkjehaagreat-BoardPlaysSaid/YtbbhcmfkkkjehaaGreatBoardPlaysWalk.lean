/- BoardPlays: whatever happens, what a board answers, and its label, is what the document says; walked. -/
import Derived.Test.YtbbhcmfkkkjehaaGreatBdPl
namespace Go.Proofs.YtbbhcmfkkkjehaaGreat.BoardPlaysW
open Go.RowKit Go.Proofs.YtbbhcmfkkkjehaaGreat.Mem Go.Proofs.YtbbhcmfkkkjehaaGreat.Sep Go.Proofs.YtbbhcmfkkkjehaaGreat.Opn Go.Proofs.YtbbhcmfkkkjehaaGreat.Member Go.Proofs.YtbbhcmfkkkjehaaGreat.Bay Go.Proofs.YtbbhcmfkkkjehaaGreat.Brd
open Go.Proofs.YtbbhcmfkkkjehaaGreatW.PrintWords hiding bt
set_option linter.unusedVariables false
set_option linter.unusedSimpArgs false

set_option maxHeartbeats 16000000 in
set_option maxRecDepth 100000 in
theorem walk (a0 : Array Value) (a1 : Option Addr) (len1 cap1 : Nat) (w : World) (f0 : Rd w (arr 1 (.int .i64) 2) a0.toList) (f1 : Rd w (.slice 5 56 bmSh) [.slice a1 len1 cap1]) :
    Calls Tryz.prog 7 #[.agg a0, .slice a1 len1 cap1] w fun e w' => e = .returned (.bool true) ∧ Below w.heap.size w w' := by
  obtain ⟨x0, x1, rfl, _, _⟩ := two_ints f0
  obtain ⟨hlc, hcm, hacts⟩ := rd_bacts f1
  have HA := Lib.hid hacts
  have HB := Lib.hid (begin_calls x0 x1)
  clear f0 f1 hacts
  go_enter Tryz.func7, Tryz.ntmps7
  go_wp2_with fail
  refine (HB.out _).mono ?_
  rintro e w1 ⟨V, B, R, X, Y, ps, rs, N, t, b, rfl, hbg⟩
  have hN : 1 ≤ N ∧ N ≤ 32 := by have := hbg.1; omega
  have HN := Lib.hid hN
  have hp := pst_begun (ba (br w) _) hbg
  have HWK := Lib.hid (bwakes_calls w1)
  have HP := Lib.hid hp
  clear hp hbg hN HB
  go_wp2_with fail
  refine HWK.out.mono ?_
  rintro e w2 ⟨rfl, b2⟩
  have HS := Lib.hid (pst_same (HP.out.step b2))
  clear b2 HP HWK
  go_wp2_with fail
  refine HS.out.mono ?_
  rintro e w3 ⟨rfl, hp3⟩
  have HP0 : Hid (Pst w V B R 110 N ps rs (2272 + 65 * 0) w3) := Lib.hid hp3
  clear hp3 HS
  go_upto_region 4 with fail
  go_cut [29, 30, 31] (fun s29 s30 s31 wx => ∃ k c' : Nat, k ≤ len1 ∧ k ≤ 40 ∧ s29 = .slice a1 k c' ∧ s30 = .int .i64 k ∧ s31 = .int .i64 0 ∧ w3 = wx)
  case first =>
    have hl : (0 : Int) ≤ (len1 : Int) := by omega
    by_cases hm : len1 ≤ 40
    · have e1 : min (len1 : Int) 40 = len1 := by omega
      go_wp2
      go_meet
      case rel => exact ⟨len1, cap1, by omega, by omega, rfl, rfl, rfl, rfl⟩
    · have e1 : min (len1 : Int) 40 = 40 := by omega
      have e2 : (40 : Nat) ≤ cap1 := by omega
      go_wp2
      go_meet
      case rel => exact ⟨40, cap1, by omega, by omega, rfl, rfl, rfl, rfl⟩
  case rest =>
    obtain ⟨K, c', hm1, hm2, rfl, rfl, rfl, rfl⟩ := hcut
    go_wp2
    go_loopw [31] (fun i wr => ∃ k : Nat, k ≤ K ∧ i = .int .i64 k ∧ Hid (Pst w V B R 110 N ps rs (2272 + 65 * k) wr)) (fun i _ => K - (intOf i).toNat)
    case atStart => exact ⟨0, Nat.zero_le _, rfl, HP0⟩
    case round =>
      obtain ⟨k, hk, rfl, HP⟩ := hrel
      clear HP0
      by_cases hlt : k < K
      · have dlt : decide ((k : Int) < (K : Int)) = true := decide_eq_true (by omega)
        obtain ⟨x, c, rfl, hok, hcell⟩ := HA.out k (by omega)
        obtain ⟨e0, e1, e2, e3, e4⟩ := bm_cells HP.out.bel hcell
        have hact := pst_act (HP.out.any (.cells (bC c) 30)) (by omega) HN.out.1 HN.out.2 (by omega) (by omega) c hok
        obtain ⟨cx, ci, ct, co, ka, kc, KA⟩ := c
        dsimp only at e0 e1 e2 e3 e4 hact
        unfold bC at hact
        dsimp only at hact
        obtain ⟨KL, hKL⟩ : ∃ KL, KL = KA.length := ⟨_, rfl⟩
        rw [← hKL] at e4 hact
        have HACT := Lib.hid hact
        have HL := Lib.hid (And.intro hm2 hk)
        clear hcell hok HP hact hKL
        go_wp2_with fail
        refine HACT.out.mono ?_
        rintro e w5 ⟨rfl, h5⟩
        have HS := Lib.hid (pst_same h5)
        clear h5 HACT e0 e1 e2 e3 e4
        go_wp2_with fail
        refine HS.out.mono ?_
        rintro e w6 ⟨rfl, h6⟩
        have HQ : Hid (Pst w V B R 110 N ps rs (2272 + 65 * (k + 1)) w6) := Lib.hid (pst_more h6 (by omega))
        clear h6 HS
        go_wp2
        go_roundw
        case measure => simp [intOf]; omega
        case rel => exact ⟨k + 1, by omega, by go_num, HQ⟩
      · obtain rfl : k = K := by omega
        have dlt : decide ((k : Int) < (k : Int)) = false := decide_eq_false (by omega)
        have HBL := Lib.hid HP.out.bel
        clear HP HA
        go_wp2
        go_ret
        exact ⟨rfl, HBL.out⟩
end Go.Proofs.YtbbhcmfkkkjehaaGreat.BoardPlaysW
