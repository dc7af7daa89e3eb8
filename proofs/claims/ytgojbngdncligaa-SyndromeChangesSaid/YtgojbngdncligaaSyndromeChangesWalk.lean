/- SyndromeChanges: changing column after column by Delta gives the parities of what stands there then; walked. -/
import Derived.Test.YtgojbngdncligaaSynRow
import Derived.Deep.DeepCutAuto
import Derived.Deep.CutBlock
namespace Go.Proofs.Ytgojbngdncligaa.SyndromeChangesW
open Go.RowKit Go.Proofs.Ytgojbngdncligaa.Mem Go.Proofs.Ytgojbngdncligaa.Bulk Go.Proofs.Ytgojbngdncligaa.Opn Go.Proofs.Ytgojbngdncligaa.Syn Go.Proofs.Ytgojbngdncligaa.BulkLimitsW Go.Proofs.Ytgojbngdncligaa.Words
set_option linter.unusedVariables false
set_option linter.unusedSimpArgs false

set_option maxHeartbeats 8000000 in
set_option maxRecDepth 100000 in
theorem walk (a0 : Option Addr) (len0 cap0 : Nat) (a1 : Option Addr) (len1 cap1 : Nat) (w : World) (f0 : Rd w (.slice 1 16 (.str)) [.slice a0 len0 cap0]) (f1 : Rd w (.slice 1 16 (.str)) [.slice a1 len1 cap1]) :
    Calls Try.prog 13 #[.slice a0 len0 cap0, .slice a1 len1 cap1] w fun e w' => e = .returned (.bool true) ∧ Below w.heap.size w w' := by
  obtain ⟨ss, rfl, hn, hcm, hS, hz⟩ := rd_strs f0
  obtain ⟨cs, hcl, hn1, hcm1, hS1, hz1⟩ := rd_strs f1
  obtain ⟨L, hL⟩ : ∃ L, L = SynCut.cutL true ss := ⟨_, rfl⟩
  have hcut := SynCut.cut_calls a0 cap0 ss true hn hcm (fun s h => by have := hz s h; omega) w hS
  have hl := Syn.cut_len true ss
  obtain ⟨n, hn60, hall⟩ := cut_even ss
  rw [← hL] at hcut hl hall
  have HC := Lib.hid hcut
  have hl12 : L.length ≤ 34 := by omega
  have HALL := Lib.hid (And.intro hall (And.intro hcl (And.intro hS1 hz1)))
  clear hcut hl hL hS hz f0 f1 hall hcl hS1 hz1 hn
  go_enter Try.func13, Try.ntmps13
  go_wp2_with fail
  refine HC.out.mono ?_
  rintro e w1 ⟨v, rfl, hown, b1⟩
  by_cases h0 : L.length = 0
  · obtain ⟨a, c, rfl, hc, hc2, hst, hB⟩ := own_strs hown
    have hmk := make_calls a c L hc hc2 (by omega) (fun s h => by have := HALL.out.1 s h; omega) w1 hst hB
    obtain ⟨E, hE⟩ : ∃ x, x = makeE L := ⟨_, rfl⟩
    have hE0 : E ≠ 0 := by rw [hE]; unfold makeE; rw [if_pos (by omega)]; decide
    rw [← hE] at hmk
    have HMK := Lib.hid hmk
    have q1 : (E == 0) = false := beq_eq_false_iff_ne.2 hE0
    have q2 : (E != 0) = true := bne_iff_ne.2 hE0
    clear hown hst hB hmk hE hE0 hl12 h0
    go_wp2_with fail
    refine HMK.out.mono ?_
    rintro e w2 ⟨rfl, b2⟩
    go_wp2_with fail
    refine (Syn.wakes_calls _).mono ?_
    rintro e w3 ⟨rfl, b3⟩
    go_wp2_with fail
    refine (Syn.wakes_calls _).mono ?_
    rintro e w4 ⟨rfl, b4⟩
    go_wp2
    go_ret
    exact ⟨rfl, bt (bt (bt b1 b2) b3) b4⟩
  · obtain ⟨g, c, rfl, hc, hc2, hg, hrow⟩ := Row.of_own hown (by omega)
    clear hown
    have b1' : w.heap.size ≤ w.heap.size := Nat.le_refl _
    have hmk := make_calls (some ⟨g, 0, none⟩) c L hc hc2 (by omega) (fun s h => by have := HALL.out.1 s h; omega) w1 hrow.strs (fun x hx => by cases hx; exact hrow.lt)
    by_cases hE : makeE L = 0
    · have hcols : Cols n L := Cols.of hE (by omega) HALL.out.1
      have hm30 := hcols.most
      have hm2 := hcols.few
      rw [hE] at hmk
      have HMK := Lib.hid hmk
      have HCO := Lib.hid hcols
      obtain ⟨len, hlen⟩ : ∃ len, len = L.length := ⟨_, rfl⟩
      rw [← hlen] at HMK hm30 hm2 hc ⊢
      have HLEN := Lib.hid hlen
      clear hmk hcols hE hlen h0 hl12
      go_wp2_with fail
      refine HMK.out.mono ?_
      rintro e w2 ⟨rfl, b2⟩
      have hrow2 := hrow.step b2
      have hb2 := bt b1 b2
      clear hrow b2 b1
      go_wp2_with fail
      refine (Syn.wakes_calls _).mono ?_
      rintro e w3 ⟨rfl, b3⟩
      have hrow3 := hrow2.step b3
      have hb3 := bt hb2 b3
      clear hrow2 b3 hb2
      go_upto_region 5 with fail
      go_cut [32, 33, 34] (fun s32 s33 s34 wx => ∃ m c' : Nat, m ≤ len1 ∧ m ≤ 40 ∧ s32 = .slice a1 m c' ∧ s33 = .int .i64 m ∧ s34 = .int .i64 0 ∧ w3 = wx)
      case first =>
        by_cases h5 : 40 < len1
        · have d5 : decide ((40 : Int) < (len1 : Int)) = true := decide_eq_true (by omega)
          go_wp2
          go_meet
          case rel => exact ⟨40, cap1, by omega, by omega, by first | rfl | (congr 1; omega), by first | rfl | (congr 1; omega), rfl, rfl⟩
        · have d5 : decide ((40 : Int) < (len1 : Int)) = false := decide_eq_false (by omega)
          go_wp2
          go_meet
          case rel => exact ⟨len1, cap1, by omega, by omega, by first | rfl | (congr 1; omega), by first | rfl | (congr 1; omega), rfl, rfl⟩
      case rest =>
        obtain ⟨m, c', hm1, hm40, rfl, rfl, rfl, rfl⟩ := hcut
        go_wp2
        go_loopw [6, 7, 34] (fun s6 s7 s34 wr => ∃ (k : Nat) (M : List ByteArray), k ≤ m ∧ s34 = .int .i64 k ∧ Hid (Cols n M ∧ M.length = len) ∧ s6 = .string (makeP M) ∧ s7 = .string (makeQ M) ∧ Row g M wr ∧ Below w.heap.size w wr) (fun _ _ i _ => m - (intOf i).toNat)
        case atStart => exact ⟨0, L, Nat.zero_le _, rfl, Lib.hid ⟨HCO.out, HLEN.out.symm⟩, rfl, rfl, hrow3, hb3⟩
        case round =>
          obtain ⟨k, M, hk, rfl, HM, rfl, rfl, hrowk, hbk⟩ := hrel
          by_cases hlt : k < m
          · have dlt : decide ((k : Int) < (m : Int)) = true := decide_eq_true (by omega)
            have ilt : ((k : Int) < (m : Int)) = True := eq_true (by omega)
            obtain ⟨s, hs⟩ : ∃ s, cs[k]? = some s := ⟨_, List.getElem?_eq_getElem (by have := HALL.out.2.1; omega)⟩
            obtain ⟨x, rfl, hcx⟩ := HALL.out.2.2.1 k s hs
            have hcx' : wr.cell? (x.add k) = some (.string s) := by rw [hbk.cell (World.block_lt_of_cell? w _ hcx)]; exact hcx
            have hsz := HALL.out.2.2.2 s (List.mem_of_getElem? hs)
            clear hs hcx
            have HCX := Lib.hid hcx'
            go_upto_region 8 with fail
            go_cut [11] (fun s11 wx => ∃ at' : Nat, at' < len ∧ s11 = .int .i64 at' ∧ wr = wx)
            case first =>
              go_wp2
              go_meet
              case rel =>
                have hm' := Int.emod_nonneg ((k : Int) * 7 + (s.size : Int)) (show (len : Int) ≠ 0 by omega)
                have hl' := Int.emod_lt_of_pos ((k : Int) * 7 + (s.size : Int)) (show (0 : Int) < (len : Int) by omega)
                exact ⟨(((k : Int) * 7 + (s.size : Int)) % (len : Int)).toNat, by omega, by rw [Int.toNat_of_nonneg hm'], rfl⟩
            case rest =>
              obtain ⟨at', hat, rfl, rfl⟩ := hcut
              clear hcx'
              obtain ⟨t0, ht0⟩ : ∃ t0, M[0]? = some t0 := ⟨_, List.getElem?_eq_getElem (by have := HM.out.2; omega)⟩
              have ht0n : t0.size = n := HM.out.1.all t0 (List.mem_of_getElem? ht0)
              obtain ⟨o, ho⟩ : ∃ o, M[at']? = some o := ⟨_, List.getElem?_eq_getElem (by have := HM.out.2; omega)⟩
              have hcell0 := hrowk.cell ht0
              have HO := Lib.hid ho
              clear ht0 ho
              go_upto_region 9 with fail
              go_cut [12] (fun s12 wx => ∃ now : ByteArray, now.size = n ∧ s12 = .string now ∧ Row g M wx ∧ Below w.heap.size w wx)
              case first =>
                obtain ⟨Z, hZ⟩ : ∃ Z, Z = noughts 60 := ⟨_, rfl⟩
                have hZs : Z.size = 60 := by rw [hZ, BulkLimitsW.noughts_size]
                have hmk : (Instr.makeSlice 41 (.int .i64 60) (.int .i64 60)).run Try.prog wr.drew = .ok (.slice (some ⟨wr.heap.size, 0, none⟩) 60 60) (wr.alloc (.cells (rowC [] 60) 5)).drew := long_made wr.drew 60 (by omega)
                have hcv : (convert 41 9 (.slice (some ⟨wr.heap.size, 0, none⟩) 60 60)).run Try.prog (wr.alloc (.cells (rowC [] 60) 5)).drew = .ok (.string (noughts 60)) (wr.alloc (.cells (rowC [] 60) 5)).drew := long_text wr.drew 60
                rw [← hZ] at hcv
                obtain ⟨R, hR⟩ : ∃ R, R = rowC [] 60 := ⟨_, rfl⟩
                rw [← hR] at hmk hcv
                have hgl := hrowk.lt
                have hrw := hrowk.step (ba (br wr) (.cells R 5))
                have HRW := Lib.hid hrw
                clear hZ hR hrw
                have hc5 : (0 : Int) < (len : Int) := by omega
                by_cases h6 : 60 < s.size
                · have d6 : decide ((60 : Int) < (s.size : Int)) = true := decide_eq_true (by omega)
                  have m6 : min (s.size : Int) 60 = 60 := by omega
                  go_region
                  go_wp2
                  go_meet
                  case rel => exact ⟨_, by simp only [ByteArray.size_extract, ByteArray.size_append]; omega, rfl, HRW.out.step (bd1 (br _)), bd1 (ba hbk _)⟩
                · have d6 : decide ((60 : Int) < (s.size : Int)) = false := decide_eq_false (by omega)
                  have m6 : min (s.size : Int) 60 = s.size := by omega
                  go_region
                  go_wp2
                  go_meet
                  case rel => exact ⟨_, by simp only [ByteArray.size_extract, ByteArray.size_append]; omega, rfl, HRW.out.step (bd1 (br _)), bd1 (ba hbk _)⟩
              case rest =>
                obtain ⟨now, hnow, rfl, hrow5, hb5⟩ := hcut
                clear hrowk hbk hcell0
                have hch := HM.out.1.change at' o now HO.out hnow
                have hon := HM.out.1.all o (List.mem_of_getElem? HO.out)
                have hpn := HM.out.1.p.1
                have hqn := HM.out.1.q.1
                have hwfa : (Lit.int .i64 (at' : Int)).wf = true := by simp [Lit.wf, IntKind.min, IntKind.max, IntKind.signed, IntKind.bits]; omega
                have hdl := delta_calls (makeP M) (makeQ M) (at' : Int) o now hwfa (by omega) (by omega) (by omega) (by omega) wc
                rw [hch.1, hch.2.1, hch.2.2] at hdl
                have HD := Lib.hid hdl
                have hcella := hrow5.cell HO.out
                have i0 : (0 : Int) ≤ (at' : Int) := by omega
                have i1 : (at' : Int) < (len : Int) := by omega
                clear hch hdl hpn hqn hwfa hon
                go_wp2_with fail
                refine HD.out.mono ?_
                rintro e w6 ⟨rfl, b6⟩
                have hrow6 := hrow5.step b6
                have hcell6 := hrow6.cell HO.out
                have hfz6 := hrow6.frozen at'
                have hb6 := bt hb5 b6
                clear hcella
                go_wp2
                go_roundw
                case measure => simp [intOf]; omega
                case rel => exact ⟨k + 1, M.set at' now, by omega, by go_num, Lib.hid ⟨HM.out.1.set at' now hnow, by rw [List.length_set]; exact HM.out.2⟩, rfl, rfl, hrow6.set at' (by have := HM.out.2; omega) now, bs hb6 (Nat.le_trans b1' hg) _⟩
          · obtain rfl : k = m := by omega
            have dlt : decide ((k : Int) < (k : Int)) = false := decide_eq_false (by omega)
            have hfi := fits_calls (some ⟨g, 0, none⟩) c M (makeP M) (makeQ M) (by have := HM.out.2; omega) hc2 (by have := HM.out.2; omega) (fun s h => by have := HM.out.1.all s h; omega) wr hrowk.strs (fun x hx => by cases hx; exact hrowk.lt)
            rw [HM.out.1.fits, HM.out.2] at hfi
            have HFI := Lib.hid hfi
            clear hfi
            go_wp2_with fail
            refine HFI.out.mono ?_
            rintro e w9 ⟨rfl, b9⟩
            go_wp2
            go_ret
            exact ⟨rfl, bt hbk b9⟩
    · obtain ⟨E, hE'⟩ : ∃ x, x = makeE L := ⟨_, rfl⟩
      rw [← hE'] at hmk hE
      have HMK := Lib.hid hmk
      have q1 : (E == 0) = false := beq_eq_false_iff_ne.2 hE
      have q2 : (E != 0) = true := bne_iff_ne.2 hE
      clear hmk hE hE' hl12 h0 hrow
      go_wp2_with fail
      refine HMK.out.mono ?_
      rintro e w2 ⟨rfl, b2⟩
      go_wp2_with fail
      refine (Syn.wakes_calls _).mono ?_
      rintro e w3 ⟨rfl, b3⟩
      go_wp2_with fail
      refine (Syn.wakes_calls _).mono ?_
      rintro e w4 ⟨rfl, b4⟩
      go_wp2
      go_ret
      exact ⟨rfl, bt (bt (bt b1 b2) b3) b4⟩
end Go.Proofs.Ytgojbngdncligaa.SyndromeChangesW
