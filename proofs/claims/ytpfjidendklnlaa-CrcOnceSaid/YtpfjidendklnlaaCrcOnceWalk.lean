/- CrcOnce: tables are made at the first call that asks for them, and never again; of a nil one nothing is had; walked. -/
import Derived.Test.YtpfjidendklnlaaCrcWakes
import Derived.Deep.DeepCutAuto
import Derived.Deep.CutBlock
namespace Go.Proofs.Ytpfjidendklnlaa.CrcOnceW
open Go.RowKit Go.Proofs.Ytpfjidendklnlaa.Mem Go.Proofs.Ytpfjidendklnlaa.CrcA Go.Proofs.Ytpfjidendklnlaa.CrcS Go.Proofs.Ytpfjidendklnlaa.Crc
open Go.Proofs.YtpfjidendklnlaaW.PrintWords hiding bt
set_option linter.unusedVariables false
set_option linter.unusedSimpArgs false

theorem made0 : madeN false = 0 := rfl
theorem made1 : madeN true = 1 := rfl
def St (w wr : World) (b k : Nat) : Prop := Tab (decide (0 < k)) wr b ∧ Below w.heap.size w wr

set_option maxHeartbeats 4000000 in
set_option maxRecDepth 100000 in
theorem walk (a0 : Option Addr) (len0 cap0 : Nat) (z0 : List Int) (a1 : ByteArray) (w : World) (f0 : IsRow .u8 w a0 len0 cap0 z0) (f1 : a1.size ≤ maxLen) :
    Calls Try.prog 5 #[.slice a0 len0 cap0, .string a1] w fun e w' => e = .returned (.bool true) ∧ Below w.heap.size w w' := by
  have hs : a1.size ≤ 9223372036854775807 := by unfold maxLen at f1; omega
  have hcell : ∀ i, i < len0 → ∃ v : Nat, ∃ x : Addr, v < 256 ∧ a0 = some x ∧ w.cell? (x.add i) = some (.int .u8 v) := by
    intro i hi
    rcases f0 with ⟨_, h, _, _⟩ | ⟨x, h1, h2, h3, h4, h5, h6⟩
    · omega
    · have hm : z0.getD i 0 ∈ z0 := by
        rw [List.getD_eq_getElem?_getD, List.getElem?_eq_getElem (by omega)]
        exact List.getElem_mem _
      obtain ⟨n, hn, hlt⟩ := wf_u8 (h6 _ hm)
      exact ⟨n, x, hlt, h1, by rw [← hn]; exact h5 i (by omega)⟩
  have hlc : len0 ≤ cap0 ∧ cap0 ≤ 9223372036854775807 := by
    rcases f0 with ⟨_, h, _, _⟩ | ⟨x, h1, h2, h3, _⟩
    · omega
    · unfold maxLen at h3; omega
  obtain ⟨hlc, hcm⟩ := hlc
  clear f0 f1
  have HC := Lib.hid hcell
  clear hcell
  go_enter Try.func5, Try.ntmps5
  go_wp2_with fail
  refine (wakes_calls _).mono ?_
  rintro e w1 ⟨rfl, _, b1⟩
  go_wp2_with fail
  refine (new_calls _).mono ?_
  rintro e w2 ⟨rfl, h2, b2⟩
  have hS : St w w2 w1.heap.size 0 := ⟨h2, bt b1 b2⟩
  have hge : w.heap.size ≤ w1.heap.size := b1.size
  clear h2 b1 b2
  obtain ⟨b, hb⟩ : ∃ b, b = w1.heap.size := ⟨_, rfl⟩
  rw [← hb] at hS hge ⊢
  clear hb
  go_upto_region 3 with fail
  go_cut [1] (fun s1 wx => ∃ t : ByteArray, t.size ≤ 50 ∧ s1 = .string t ∧ w2 = wx)
  case first =>
    by_cases h5 : 50 < a1.size
    · have d5 : decide ((50 : Int) < (a1.size : Int)) = true := decide_eq_true (by omega)
      go_wp2
      go_meet
      case rel => exact ⟨_, by first | omega | (rw [ByteArray.size_extract]; omega), rfl, rfl⟩
    · have d5 : decide ((50 : Int) < (a1.size : Int)) = false := decide_eq_false (by omega)
      go_wp2
      go_meet
      case rel => exact ⟨_, by first | omega | (rw [ByteArray.size_extract]; omega), rfl, rfl⟩
  case rest =>
    obtain ⟨t, ht, rfl, rfl⟩ := hcut
    have ts : t.size ≤ 9223372036854775807 := by omega
    go_upto_region 4 with fail
    go_cut [25, 26, 27] (fun s25 s26 s27 wx => ∃ n c : Nat, n ≤ len0 ∧ n ≤ 30 ∧ s25 = .slice a0 n c ∧ s26 = .int .i64 n ∧ s27 = .int .i64 0 ∧ w2 = wx)
    case first =>
      by_cases h5 : 30 < len0
      · have d5 : decide ((30 : Int) < (len0 : Int)) = true := decide_eq_true (by omega)
        go_wp2
        go_meet
        case rel => exact ⟨30, cap0, by omega, by omega, rfl, rfl, rfl, rfl⟩
      · have d5 : decide ((30 : Int) < (len0 : Int)) = false := decide_eq_false (by omega)
        go_wp2
        go_meet
        case rel => exact ⟨len0, cap0, by omega, by omega, rfl, rfl, rfl, rfl⟩
    case rest =>
      obtain ⟨n, c, hn, hn30, rfl, rfl, rfl, rfl⟩ := hcut
      go_wp2
      go_loopw [27] (fun i wr => ∃ k : Nat, k ≤ n ∧ i = .int .i64 k ∧ Hid (St w wr b k)) (fun i _ => n - (intOf i).toNat)
      case atStart => exact ⟨0, Nat.zero_le _, rfl, Lib.hid hS⟩
      case round =>
        clear hS
        obtain ⟨k, hk, rfl, HS⟩ := hrel
        have hs1 := HS.out
        by_cases hlt : k < n
        · obtain ⟨v, x, hv, hx, hc⟩ := HC.out k (by omega)
          have hc' : wr.cell? (x.add k) = some (.int .u8 (v : Nat)) := by rw [hs1.2.cell (World.block_lt_of_cell? w _ hc)]; exact hc
          have dlt : decide ((k : Int) < (n : Int)) = true := decide_eq_true (by omega)
          have ilt : ((k : Int) < (n : Int)) = True := eq_true (by omega)
          have hw : (v : Int) % 4294967296 = v := by omega
          subst hx
          have t1 : ((madeN (decide (0 < k)) == 0) == ((k : Int) == 0)) = true := by
            by_cases h : 0 < k
            · rw [decide_eq_true h, made1, beq_eq_false_iff_ne.2 (show (k : Int) ≠ 0 by omega)]; rfl
            · obtain rfl : k = 0 := by omega
              rfl
          clear hc
          rcases (show (v : Int) % 3 = 0 ∨ (v : Int) % 3 = 1 ∨ (v : Int) % 3 = 2 by omega) with hv3 | hv3 | hv3
          · have q0 : ((v : Int) % 3 == 0) = true := by rw [hv3]; rfl
            have q1 : ((v : Int) % 3 == 1) = false := by rw [hv3]; rfl
            clear hv3
            go_wp2_with fail
            refine (made_calls b (decide (0 < k)) _ hs1.1).mono ?_
            rintro e u1 ⟨rfl, rfl⟩
            go_wp2_with fail
            refine (Crc.sum_calls b _ t ts _ hs1.1).mono ?_
            rintro e u3 ⟨rfl, g3, k3⟩
            go_wp2_with fail
            refine (made_calls b true _ g3).mono ?_
            rw [made1]
            rintro e u4 ⟨rfl, rfl⟩
            go_wp2_with fail
            go_roundw
            case measure => simp [intOf]; omega
            case rel => exact ⟨k + 1, by omega, by go_num, Lib.hid ⟨by rw [decide_eq_true (by omega : 0 < k + 1)]; exact g3, bk hs1.2 k3 hge⟩⟩
          · have q0 : ((v : Int) % 3 == 0) = false := by rw [hv3]; rfl
            have q1 : ((v : Int) % 3 == 1) = true := by rw [hv3]; rfl
            clear hv3
            go_wp2_with fail
            refine (made_calls b (decide (0 < k)) _ hs1.1).mono ?_
            rintro e u1 ⟨rfl, rfl⟩
            go_wp2_with fail
            refine (Crc.more_calls b _ v t (by omega) ts _ hs1.1).mono ?_
            rintro e u3 ⟨rfl, g3, k3⟩
            go_wp2_with fail
            refine (made_calls b true _ g3).mono ?_
            rw [made1]
            rintro e u4 ⟨rfl, rfl⟩
            go_wp2_with fail
            go_roundw
            case measure => simp [intOf]; omega
            case rel => exact ⟨k + 1, by omega, by go_num, Lib.hid ⟨by rw [decide_eq_true (by omega : 0 < k + 1)]; exact g3, bk hs1.2 k3 hge⟩⟩
          · have q0 : ((v : Int) % 3 == 0) = false := by rw [hv3]; rfl
            have q1 : ((v : Int) % 3 == 1) = false := by rw [hv3]; rfl
            clear hv3
            go_wp2_with fail
            refine (made_calls b (decide (0 < k)) _ hs1.1).mono ?_
            rintro e u1 ⟨rfl, rfl⟩
            go_wp2_with fail
            refine (Crc.join_calls b _ 1 2 v (by decide) (by decide) (by omega) _ hs1.1).mono ?_
            rintro e u3 ⟨rfl, g3, k3⟩
            go_wp2_with fail
            refine (made_calls b true _ g3).mono ?_
            rw [made1]
            rintro e u4 ⟨rfl, rfl⟩
            go_wp2_with fail
            go_roundw
            case measure => simp [intOf]; omega
            case rel => exact ⟨k + 1, by omega, by go_num, Lib.hid ⟨by rw [decide_eq_true (by omega : 0 < k + 1)]; exact g3, bk hs1.2 k3 hge⟩⟩
        · obtain rfl : k = n := by omega
          have dlt : decide ((k : Int) < (k : Int)) = false := decide_eq_false (by omega)
          go_wp2_with fail
          refine (sum_nil t _).mono ?_
          rintro e u1 ⟨rfl, rfl⟩
          go_wp2_with fail
          refine (more_nil 7 t _).mono ?_
          rintro e u2 ⟨rfl, rfl⟩
          go_wp2_with fail
          refine (join_nil 7 8 9 _).mono ?_
          rintro e u3 ⟨rfl, rfl⟩
          go_wp2_with fail
          refine (made_nil _).mono ?_
          rintro e u4 ⟨rfl, rfl⟩
          go_wp2_with fail
          go_ret
          exact ⟨rfl, hs1.2⟩
end Go.Proofs.Ytpfjidendklnlaa.CrcOnceW
