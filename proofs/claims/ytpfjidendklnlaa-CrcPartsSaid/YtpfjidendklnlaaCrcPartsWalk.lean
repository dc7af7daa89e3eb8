/- CrcParts: a text cut off anywhere has the sum that its parts come to, by going on and by joining; walked. -/
import Derived.Test.YtpfjidendklnlaaCrcWakes
import Derived.Deep.DeepCutAuto
import Derived.Deep.CutBlock
import Derived.Deep.RegionHeld3
namespace Go.Proofs.Ytpfjidendklnlaa.CrcPartsW
open Go.RowKit Go.Proofs.Ytpfjidendklnlaa.Mem Go.Proofs.Ytpfjidendklnlaa.CrcA Go.Proofs.Ytpfjidendklnlaa.CrcS Go.Proofs.Ytpfjidendklnlaa.Crc
open Go.Proofs.YtpfjidendklnlaaW.PrintWords hiding bt
set_option linter.unusedVariables false
set_option linter.unusedSimpArgs false

theorem by8_take (s : ByteArray) (k : Nat) : by8 (s.extract 0 k) = (by8 s).take k := by
  unfold by8
  rw [ByteArray.data_extract, Array.toList_extract, ← List.map_take]
  congr 1
theorem by8_drop (s : ByteArray) (k : Nat) : by8 (s.extract k s.size) = (by8 s).drop k := by
  unfold by8
  rw [ByteArray.data_extract, Array.toList_extract, ← List.map_drop]
  congr 1
  simp only [List.extract_eq_take_drop]
  rw [List.take_of_length_le]
  rw [List.length_drop, Array.length_toList]
  exact Nat.le_refl _
theorem parts_more (s : ByteArray) (k : Nat) : reg (CrcA.sum (by8 (s.extract 0 k)) ^^^ full) (by8 (s.extract k s.size)) ^^^ full = CrcA.sum (by8 s) := by
  rw [by8_take, by8_drop, sum_more, List.take_append_drop]
theorem parts_join (s : ByteArray) (k : Nat) (hk : k ≤ s.size) : joinN (CrcA.sum (by8 (s.extract 0 k))) (CrcA.sum (by8 (s.extract k s.size))) ((s.size : Int) - k) = CrcA.sum (by8 s) := by
  rw [by8_take, by8_drop]
  unfold joinN
  split
  · have : k = s.size := by omega
    subst this
    rw [List.take_of_length_le (by rw [by8_length]; exact Nat.le_refl _)]
  · have h := sum_join ((by8 s).take k) ((by8 s).drop k)
    rw [List.take_append_drop, List.length_drop, by8_length] at h
    rw [show ((s.size : Int) - k).toNat = s.size - k by omega]
    exact h

/-- The tables are made; what was there stays. -/
def St (w : World) (b : Nat) (w' : World) : Prop := Tab true w' b ∧ Below w.heap.size w w'
theorem St.drew {w w' : World} {b : Nat} (h : St w b w') : St w b w'.drew := ⟨h.1.drewN 1, bd1 h.2⟩
theorem St.below {w w' : World} {b : Nat} (h : St w b w') : Below w.heap.size w w' := h.2

set_option maxHeartbeats 40000000 in
set_option maxRecDepth 100000 in
theorem walk (a0 : ByteArray) (a1 : Int) (w : World) (f0 : a0.size ≤ maxLen) (f1 : (Lit.int .i64 a1).wf = true) :
    Calls Try.prog 4 #[.string a0, .int .i64 a1] w fun e w' => e = .returned (.bool true) ∧ Below w.heap.size w w' := by
  have hs : a0.size ≤ 9223372036854775807 := by unfold maxLen at f0; omega
  clear f0
  go_enter Try.func4, Try.ntmps4
  go_wp2_with fail
  refine (wakes_calls _).mono ?_
  rintro e w1 ⟨rfl, h1, b1⟩
  go_upto_region 2 with fail
  go_cut [0] (fun s0 wx => ∃ t : ByteArray, t.size ≤ 2000 ∧ s0 = .string t ∧ w1 = wx)
  case first =>
    by_cases h5 : 2000 < a0.size
    · have d5 : decide ((2000 : Int) < (a0.size : Int)) = true := decide_eq_true (by omega)
      go_wp2
      go_meet
      case rel => exact ⟨_, by rw [ByteArray.size_extract]; omega, rfl, rfl⟩
    · have d5 : decide ((2000 : Int) < (a0.size : Int)) = false := decide_eq_false (by omega)
      go_wp2
      go_meet
      case rel => exact ⟨_, by omega, rfl, rfl⟩
  case rest =>
    obtain ⟨t, ht, rfl, rfl⟩ := hcut
    go_upto_region 3 with fail
    go_cut [7] (fun s7 wx => ∃ k : Nat, k ≤ t.size ∧ s7 = .int .i64 k ∧ w1 = wx)
    case first =>
      go_wp2
      · go_meet
        case rel =>
          have hm := Int.emod_nonneg a1 (show (t.size : Int) + 1 ≠ 0 by omega)
          have hl := Int.emod_lt_of_pos a1 (show (0 : Int) < (t.size : Int) + 1 by omega)
          exact ⟨(a1 % ((t.size : Int) + 1)).toNat, by omega, by rw [Int.toNat_of_nonneg hm], rfl⟩
      · go_meet
        case rel => exact ⟨0, by omega, rfl, rfl⟩
    case rest =>
      obtain ⟨k, hk, rfl, rfl⟩ := hcut
      obtain ⟨b, hb⟩ : ∃ b, b = w.heap.size := ⟨_, rfl⟩
      have hS : St w b w1 := ⟨by rw [hb]; exact h1, b1⟩
      have hbe : w.heap.size ≤ b := by omega
      rw [← hb]
      clear h1 b1 hb
      have j0 : (0 : Int) ≤ (k : Int) := by omega
      have j1 : (k : Int) ≤ (t.size : Int) := by omega
      have j2 : (t.size : Int) - k ≤ 9223372036854775807 := by omega
      have j3 : IntKind.i64.wrap ((t.size : Int) - k) = (t.size : Int) - k := by rw [IntKind.wrap_i64]; omega
      have ts : t.size ≤ 9223372036854775807 := by omega
      obtain ⟨p, hp⟩ : ∃ p, p = CrcA.sum (by8 (t.extract 0 k)) := ⟨_, rfl⟩
      obtain ⟨q, hq⟩ : ∃ q, q = CrcA.sum (by8 (t.extract k t.size)) := ⟨_, rfl⟩
      obtain ⟨m, hm⟩ : ∃ m, m = CrcA.sum (by8 t) := ⟨_, rfl⟩
      have s1 : (t.extract 0 k).size ≤ 9223372036854775807 := by rw [ByteArray.size_extract]; omega
      have s2 : (t.extract k t.size).size ≤ 9223372036854775807 := by rw [ByteArray.size_extract]; omega
      have cTake : Hid (∀ wx, St w b wx → Calls Try.prog 16 #[.pointer (some ⟨b, 0, none⟩), .string (t.extract 0 k)] wx fun e w' => e = .returned (.int .u32 (p : Nat)) ∧ St w b w') := Lib.hid (fun wx h => by
        refine (Crc.sum_calls b true _ s1 wx h.1).mono ?_
        rintro e w' ⟨rfl, h', k'⟩
        exact ⟨by rw [hp], h', bk h.2 k' hbe⟩)
      have cDrop : Hid (∀ wx, St w b wx → Calls Try.prog 16 #[.pointer (some ⟨b, 0, none⟩), .string (t.extract k t.size)] wx fun e w' => e = .returned (.int .u32 (q : Nat)) ∧ St w b w') := Lib.hid (fun wx h => by
        refine (Crc.sum_calls b true _ s2 wx h.1).mono ?_
        rintro e w' ⟨rfl, h', k'⟩
        exact ⟨by rw [hq], h', bk h.2 k' hbe⟩)
      have cAll : Hid (∀ wx, St w b wx → Calls Try.prog 16 #[.pointer (some ⟨b, 0, none⟩), .string t] wx fun e w' => e = .returned (.int .u32 (m : Nat)) ∧ St w b w') := Lib.hid (fun wx h => by
        refine (Crc.sum_calls b true _ ts wx h.1).mono ?_
        rintro e w' ⟨rfl, h', k'⟩
        exact ⟨by rw [hm], h', bk h.2 k' hbe⟩)
      have cMore : Hid (∀ wx, St w b wx → Calls Try.prog 17 #[.pointer (some ⟨b, 0, none⟩), .int .u32 (p : Nat), .string (t.extract k t.size)] wx fun e w' => e = .returned (.int .u32 (m : Nat)) ∧ St w b w') := Lib.hid (fun wx h => by
        have hlt : p < 4294967296 := by rw [hp]; exact sum_lt _ (by8_lt _)
        refine (Crc.more_calls b true p _ hlt s2 wx h.1).mono ?_
        rintro e w' ⟨rfl, h', k'⟩
        exact ⟨by rw [hm, ← parts_more t k, ← hp], h', bk h.2 k' hbe⟩)
      have cJoin : Hid (∀ wx, St w b wx → Calls Try.prog 19 #[.pointer (some ⟨b, 0, none⟩), .int .u32 (p : Nat), .int .u32 (q : Nat), .int .i64 ((t.size : Int) - k)] wx fun e w' => e = .returned (.int .u32 (m : Nat)) ∧ St w b w') := Lib.hid (fun wx h => by
        have hlt : p < 4294967296 := by rw [hp]; exact sum_lt _ (by8_lt _)
        have hlt2 : q < 4294967296 := by rw [hq]; exact sum_lt _ (by8_lt _)
        refine (Crc.join_calls b true p q _ hlt hlt2 j2 wx h.1).mono ?_
        rintro e w' ⟨rfl, h', k'⟩
        exact ⟨by rw [hm, ← parts_join t k hk, ← hp, ← hq], h', bk h.2 k' hbe⟩)
      have cSlow : Hid (∀ wx, St w b wx → Calls Try.prog 14 #[.string t] wx fun e w' => e = .returned (.int .u32 (m : Nat)) ∧ St w b w') := Lib.hid (fun wx h => by
        refine (CrcS.slow_calls _ ts wx).mono ?_
        rintro e w' ⟨rfl, ⟨n, rfl⟩⟩
        exact ⟨by rw [hm], h.1.drewN n, bd h.2 n⟩)
      clear hp hq hm s1 s2 j2
      go_upto_region 4 with fail
      go_region_held3 (fun w' => St w b w') (first | assumption | (apply St.drew; assumption)) (first
        | (go_at_call 16; (first | refine (cTake.out _ (by assumption)).mono ?_ | refine (cDrop.out _ (by assumption)).mono ?_ | refine (cAll.out _ (by assumption)).mono ?_); rintro e w' ⟨rfl, hS'⟩)
        | (go_at_call 17; refine (cMore.out _ (by assumption)).mono ?_; rintro e w' ⟨rfl, hS'⟩)
        | (go_at_call 19; refine (cJoin.out _ (by assumption)).mono ?_; rintro e w' ⟨rfl, hS'⟩)
        | (go_at_call 14; refine (cSlow.out _ (by assumption)).mono ?_; rintro e w' ⟨rfl, hS'⟩))
      all_goals go_wp2
      all_goals go_ret
      all_goals exact ⟨rfl, St.below (b := b) (by assumption)⟩
end Go.Proofs.Ytpfjidendklnlaa.CrcPartsW
