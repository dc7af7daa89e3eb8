/- GfOnce: tables are made at the first call that asks for them, whichever that is, and never again; walked. -/
import Derived.Test.YtanaaleojpbfbaaGfWakes
namespace Go.Proofs.Ytanaaleojpbfbaa.GfOnceW
open Go.RowKit Go.Proofs.Ytanaaleojpbfbaa.Mem Go.Proofs.Ytanaaleojpbfbaa.Gmul Go.Proofs.Ytanaaleojpbfbaa.Gf Go.Proofs.YtanaaleojpbfbaaW.PrintWords
set_option linter.unusedVariables false
set_option linter.unusedSimpArgs false

theorem and3 (v : Int) (h0 : 0 ≤ v) (h1 : v < 256) : bits .and .u8 v 3 = v % 4 := bits_mask .u8 8 (by decide) wraps_u8 2 (by decide) v h0 h1
theorem made0 : madeN false = 0 := rfl
theorem made1 : madeN true = 1 := rfl

/-- One round: whichever call it is. -/
def St (w wr : World) (bf bo k : Nat) : Prop := Fld (decide (0 < k)) wr bf ∧ Fld false wr bo ∧ Below w.heap.size w wr

set_option maxHeartbeats 4000000 in
set_option maxRecDepth 100000 in
theorem walk (a0 : Option Addr) (len0 cap0 : Nat) (z0 : List Int) (a1 a2 : Int) (w : World) (f0 : IsRow .u8 w a0 len0 cap0 z0) (f1 : (Lit.int .u8 a1).wf = true) (f2 : (Lit.int .u8 a2).wf = true) :
    Calls Try.prog 12 #[.slice a0 len0 cap0, .int .u8 a1, .int .u8 a2] w fun e w' => e = .returned (.bool true) ∧ Below w.heap.size w w' := by
  obtain ⟨a, rfl, ha⟩ := wf_u8 f1
  obtain ⟨b, rfl, hb⟩ := wf_u8 f2
  have hcell : ∀ i, i < len0 → ∃ v : Int, ∃ x : Addr, 0 ≤ v ∧ v < 256 ∧ a0 = some x ∧ w.cell? (x.add i) = some (.int .u8 v) := by
    intro i hi
    rcases f0 with ⟨_, h, _, _⟩ | ⟨x, h1, h2, h3, h4, h5, h6⟩
    · omega
    · have hm : z0.getD i 0 ∈ z0 := by
        rw [List.getD_eq_getElem?_getD, List.getElem?_eq_getElem (by omega)]
        exact List.getElem_mem _
      obtain ⟨n, hn, hlt⟩ := wf_u8 (h6 _ hm)
      exact ⟨z0.getD i 0, x, by omega, by omega, h1, h5 i (by omega)⟩
  have hlc : len0 ≤ cap0 ∧ cap0 ≤ 9223372036854775807 := by
    rcases f0 with ⟨_, h, _, _⟩ | ⟨x, h1, h2, h3, _⟩
    · omega
    · unfold maxLen at h3; omega
  obtain ⟨hlc, hcm⟩ := hlc
  clear f0
  have HC := Lib.hid hcell
  clear hcell
  go_enter Try.func12, Try.ntmps12
  go_wp2_with fail
  refine (wakes_calls _).mono ?_
  rintro e w1 ⟨rfl, _, b1⟩
  go_wp2_with fail
  refine (new_calls _).mono ?_
  rintro e w2 ⟨rfl, h2, b2⟩
  go_wp2_with fail
  refine (new_calls _).mono ?_
  rintro e w3 ⟨rfl, h3, b3⟩
  have h2' := Blk.below h2 b3 (Blk.lt h2)
  have hS : St w w3 w1.heap.size w2.heap.size 0 := ⟨h2', h3, bt (bt b1 b2) b3⟩
  have hne : w1.heap.size ≠ w2.heap.size := by have := Blk.lt h2; omega
  have hge1 : w.heap.size ≤ w1.heap.size := b1.size
  have hge2 : w.heap.size ≤ w2.heap.size := Nat.le_trans b1.size b2.size
  clear h2 h3 h2' b1 b2 b3
  obtain ⟨bf, hbf⟩ : ∃ bf, bf = w1.heap.size := ⟨_, rfl⟩
  obtain ⟨bo, hbo⟩ : ∃ bo, bo = w2.heap.size := ⟨_, rfl⟩
  rw [← hbf] at hS hne hge1 ⊢
  rw [← hbo] at hS hne hge2 ⊢
  clear hbf hbo
  have hmx : max (40 : Int) 0 = 40 := by decide
  by_cases h40 : 40 < len0
  · have d40 : decide ((40 : Int) < (len0 : Int)) = true := decide_eq_true (by omega)
    go_wp2_with fail
    all_goals
      go_loopw [25] (fun i wr => ∃ k : Nat, k ≤ 40 ∧ i = .int .i64 k ∧ Hid (St w wr bf bo k)) (fun i _ => 40 - (intOf i).toNat)
      case atStart => exact ⟨0, Nat.zero_le _, rfl, Lib.hid hS⟩
      case round =>
        obtain ⟨k, hk, rfl, HS⟩ := hrel
        have hs := HS.out
        by_cases hlt : k < 40
        · obtain ⟨v, x, hv0, hv1, hx, hc⟩ := HC.out k (by omega)
          have hc' : wr.cell? (x.add k) = some (.int .u8 v) := by rw [hs.2.2.cell (World.block_lt_of_cell? w _ hc)]; exact hc
          have hand : bits .and .u8 v 3 = v % 4 := and3 v hv0 hv1
          have dlt : decide ((k : Int) < 40) = true := decide_eq_true (by omega)
          have ilt : ((k : Int) < 40) = True := eq_true (by omega)
          subst hx
          have t1 : ((madeN (decide (0 < k)) == 0) == ((k : Int) == 0)) = true := by
            by_cases h : 0 < k
            · rw [decide_eq_true h, made1, beq_eq_false_iff_ne.2 (show (k : Int) ≠ 0 by omega)]; rfl
            · obtain rfl : k = 0 := by omega
              rfl
          have t2 : decide (1 < madeN (decide (0 < k))) = false := by
            cases decide (0 < k) <;> decide
          clear hc
          rcases (show v % 4 = 0 ∨ v % 4 = 1 ∨ v % 4 = 2 ∨ v % 4 = 3 by omega) with hv4 | hv4 | hv4 | hv4
          · have q0 : (v % 4 == 0) = true := by rw [hv4]; rfl
            have q1 : (v % 4 == 1) = false := by rw [hv4]; rfl
            have q2 : (v % 4 == 2) = false := by rw [hv4]; rfl
            clear hv4
            go_wp2_with fail
            refine (made_calls bf (decide (0 < k)) _ hs.1).mono ?_
            rintro e u1 ⟨rfl, rfl⟩
            go_wp2_with fail
            refine (made_calls bf (decide (0 < k)) _ hs.1).mono ?_
            rintro e u2 ⟨rfl, rfl⟩
            go_wp2_with fail
            refine (mul_calls bf _ a b ha hb _ hs.1).mono ?_
            rintro e u3 ⟨rfl, g3, k3⟩
            go_wp2_with fail
            refine (made_calls bf true _ g3).mono ?_
            rw [made1]
            rintro e u4 ⟨rfl, rfl⟩
            go_wp2_with fail
            go_roundw
            case measure => simp [intOf]; omega
            case rel => exact ⟨k + 1, by omega, by go_num, Lib.hid ⟨by rw [decide_eq_true (by omega : 0 < k + 1)]; exact g3, Blk.keep hs.2.1 k3 (fun h => hne h.symm), bk hs.2.2 k3 hge1⟩⟩
          · have q0 : (v % 4 == 0) = false := by rw [hv4]; rfl
            have q1 : (v % 4 == 1) = true := by rw [hv4]; rfl
            have q2 : (v % 4 == 2) = false := by rw [hv4]; rfl
            clear hv4
            go_wp2_with fail
            refine (made_calls bf (decide (0 < k)) _ hs.1).mono ?_
            rintro e u1 ⟨rfl, rfl⟩
            go_wp2_with fail
            refine (made_calls bf (decide (0 < k)) _ hs.1).mono ?_
            rintro e u2 ⟨rfl, rfl⟩
            go_wp2_with fail
            refine (div_calls bf _ a b ha hb _ hs.1).mono ?_
            rintro e u3 ⟨rfl, g3, k3⟩
            go_wp2_with fail
            refine (made_calls bf true _ g3).mono ?_
            rw [made1]
            rintro e u4 ⟨rfl, rfl⟩
            go_wp2_with fail
            go_roundw
            case measure => simp [intOf]; omega
            case rel => exact ⟨k + 1, by omega, by go_num, Lib.hid ⟨by rw [decide_eq_true (by omega : 0 < k + 1)]; exact g3, Blk.keep hs.2.1 k3 (fun h => hne h.symm), bk hs.2.2 k3 hge1⟩⟩
          · have q0 : (v % 4 == 0) = false := by rw [hv4]; rfl
            have q1 : (v % 4 == 1) = false := by rw [hv4]; rfl
            have q2 : (v % 4 == 2) = true := by rw [hv4]; rfl
            clear hv4
            go_wp2_with fail
            refine (made_calls bf (decide (0 < k)) _ hs.1).mono ?_
            rintro e u1 ⟨rfl, rfl⟩
            go_wp2_with fail
            refine (made_calls bf (decide (0 < k)) _ hs.1).mono ?_
            rintro e u2 ⟨rfl, rfl⟩
            go_wp2_with fail
            refine (exp_calls bf _ (a : Int) _ hs.1).mono ?_
            rintro e u3 ⟨rfl, g3, k3⟩
            go_wp2_with fail
            refine (made_calls bf true _ g3).mono ?_
            rw [made1]
            rintro e u4 ⟨rfl, rfl⟩
            go_wp2_with fail
            go_roundw
            case measure => simp [intOf]; omega
            case rel => exact ⟨k + 1, by omega, by go_num, Lib.hid ⟨by rw [decide_eq_true (by omega : 0 < k + 1)]; exact g3, Blk.keep hs.2.1 k3 (fun h => hne h.symm), bk hs.2.2 k3 hge1⟩⟩
          · have q0 : (v % 4 == 0) = false := by rw [hv4]; rfl
            have q1 : (v % 4 == 1) = false := by rw [hv4]; rfl
            have q2 : (v % 4 == 2) = false := by rw [hv4]; rfl
            clear hv4
            go_wp2_with fail
            refine (made_calls bf (decide (0 < k)) _ hs.1).mono ?_
            rintro e u1 ⟨rfl, rfl⟩
            go_wp2_with fail
            refine (made_calls bf (decide (0 < k)) _ hs.1).mono ?_
            rintro e u2 ⟨rfl, rfl⟩
            go_wp2_with fail
            refine (log_calls bf _ a ha _ hs.1).mono ?_
            rintro e u3 ⟨rfl, g3, k3⟩
            go_wp2_with fail
            refine (made_calls bf true _ g3).mono ?_
            rw [made1]
            rintro e u4 ⟨rfl, rfl⟩
            go_wp2_with fail
            go_roundw
            case measure => simp [intOf]; omega
            case rel => exact ⟨k + 1, by omega, by go_num, Lib.hid ⟨by rw [decide_eq_true (by omega : 0 < k + 1)]; exact g3, Blk.keep hs.2.1 k3 (fun h => hne h.symm), bk hs.2.2 k3 hge1⟩⟩
        · have dlt : decide ((k : Int) < 40) = false := decide_eq_false (by omega)
          go_wp2_with fail
          refine (made_calls bo false _ hs.2.1).mono ?_
          rw [made0]
          rintro e u1 ⟨rfl, rfl⟩
          go_wp2_with fail
          go_ret
          exact ⟨rfl, hs.2.2⟩
  · have d40 : decide ((40 : Int) < (len0 : Int)) = false := decide_eq_false (by omega)
    go_wp2_with fail
    all_goals
      go_loopw [25] (fun i wr => ∃ k : Nat, k ≤ len0 ∧ i = .int .i64 k ∧ Hid (St w wr bf bo k)) (fun i _ => len0 - (intOf i).toNat)
      case atStart => exact ⟨0, Nat.zero_le _, rfl, Lib.hid hS⟩
      case round =>
        obtain ⟨k, hk, rfl, HS⟩ := hrel
        have hs := HS.out
        by_cases hlt : k < len0
        · obtain ⟨v, x, hv0, hv1, hx, hc⟩ := HC.out k (by omega)
          have hc' : wr.cell? (x.add k) = some (.int .u8 v) := by rw [hs.2.2.cell (World.block_lt_of_cell? w _ hc)]; exact hc
          have hand : bits .and .u8 v 3 = v % 4 := and3 v hv0 hv1
          have dlt : decide ((k : Int) < (len0 : Int)) = true := decide_eq_true (by omega)
          have ilt : ((k : Int) < (len0 : Int)) = True := eq_true (by omega)
          subst hx
          have t1 : ((madeN (decide (0 < k)) == 0) == ((k : Int) == 0)) = true := by
            by_cases h : 0 < k
            · rw [decide_eq_true h, made1, beq_eq_false_iff_ne.2 (show (k : Int) ≠ 0 by omega)]; rfl
            · obtain rfl : k = 0 := by omega
              rfl
          have t2 : decide (1 < madeN (decide (0 < k))) = false := by
            cases decide (0 < k) <;> decide
          clear hc
          rcases (show v % 4 = 0 ∨ v % 4 = 1 ∨ v % 4 = 2 ∨ v % 4 = 3 by omega) with hv4 | hv4 | hv4 | hv4
          · have q0 : (v % 4 == 0) = true := by rw [hv4]; rfl
            have q1 : (v % 4 == 1) = false := by rw [hv4]; rfl
            have q2 : (v % 4 == 2) = false := by rw [hv4]; rfl
            clear hv4
            go_wp2_with fail
            refine (made_calls bf (decide (0 < k)) _ hs.1).mono ?_
            rintro e u1 ⟨rfl, rfl⟩
            go_wp2_with fail
            refine (made_calls bf (decide (0 < k)) _ hs.1).mono ?_
            rintro e u2 ⟨rfl, rfl⟩
            go_wp2_with fail
            refine (mul_calls bf _ a b ha hb _ hs.1).mono ?_
            rintro e u3 ⟨rfl, g3, k3⟩
            go_wp2_with fail
            refine (made_calls bf true _ g3).mono ?_
            rw [made1]
            rintro e u4 ⟨rfl, rfl⟩
            go_wp2_with fail
            go_roundw
            case measure => simp [intOf]; omega
            case rel => exact ⟨k + 1, by omega, by go_num, Lib.hid ⟨by rw [decide_eq_true (by omega : 0 < k + 1)]; exact g3, Blk.keep hs.2.1 k3 (fun h => hne h.symm), bk hs.2.2 k3 hge1⟩⟩
          · have q0 : (v % 4 == 0) = false := by rw [hv4]; rfl
            have q1 : (v % 4 == 1) = true := by rw [hv4]; rfl
            have q2 : (v % 4 == 2) = false := by rw [hv4]; rfl
            clear hv4
            go_wp2_with fail
            refine (made_calls bf (decide (0 < k)) _ hs.1).mono ?_
            rintro e u1 ⟨rfl, rfl⟩
            go_wp2_with fail
            refine (made_calls bf (decide (0 < k)) _ hs.1).mono ?_
            rintro e u2 ⟨rfl, rfl⟩
            go_wp2_with fail
            refine (div_calls bf _ a b ha hb _ hs.1).mono ?_
            rintro e u3 ⟨rfl, g3, k3⟩
            go_wp2_with fail
            refine (made_calls bf true _ g3).mono ?_
            rw [made1]
            rintro e u4 ⟨rfl, rfl⟩
            go_wp2_with fail
            go_roundw
            case measure => simp [intOf]; omega
            case rel => exact ⟨k + 1, by omega, by go_num, Lib.hid ⟨by rw [decide_eq_true (by omega : 0 < k + 1)]; exact g3, Blk.keep hs.2.1 k3 (fun h => hne h.symm), bk hs.2.2 k3 hge1⟩⟩
          · have q0 : (v % 4 == 0) = false := by rw [hv4]; rfl
            have q1 : (v % 4 == 1) = false := by rw [hv4]; rfl
            have q2 : (v % 4 == 2) = true := by rw [hv4]; rfl
            clear hv4
            go_wp2_with fail
            refine (made_calls bf (decide (0 < k)) _ hs.1).mono ?_
            rintro e u1 ⟨rfl, rfl⟩
            go_wp2_with fail
            refine (made_calls bf (decide (0 < k)) _ hs.1).mono ?_
            rintro e u2 ⟨rfl, rfl⟩
            go_wp2_with fail
            refine (exp_calls bf _ (a : Int) _ hs.1).mono ?_
            rintro e u3 ⟨rfl, g3, k3⟩
            go_wp2_with fail
            refine (made_calls bf true _ g3).mono ?_
            rw [made1]
            rintro e u4 ⟨rfl, rfl⟩
            go_wp2_with fail
            go_roundw
            case measure => simp [intOf]; omega
            case rel => exact ⟨k + 1, by omega, by go_num, Lib.hid ⟨by rw [decide_eq_true (by omega : 0 < k + 1)]; exact g3, Blk.keep hs.2.1 k3 (fun h => hne h.symm), bk hs.2.2 k3 hge1⟩⟩
          · have q0 : (v % 4 == 0) = false := by rw [hv4]; rfl
            have q1 : (v % 4 == 1) = false := by rw [hv4]; rfl
            have q2 : (v % 4 == 2) = false := by rw [hv4]; rfl
            clear hv4
            go_wp2_with fail
            refine (made_calls bf (decide (0 < k)) _ hs.1).mono ?_
            rintro e u1 ⟨rfl, rfl⟩
            go_wp2_with fail
            refine (made_calls bf (decide (0 < k)) _ hs.1).mono ?_
            rintro e u2 ⟨rfl, rfl⟩
            go_wp2_with fail
            refine (log_calls bf _ a ha _ hs.1).mono ?_
            rintro e u3 ⟨rfl, g3, k3⟩
            go_wp2_with fail
            refine (made_calls bf true _ g3).mono ?_
            rw [made1]
            rintro e u4 ⟨rfl, rfl⟩
            go_wp2_with fail
            go_roundw
            case measure => simp [intOf]; omega
            case rel => exact ⟨k + 1, by omega, by go_num, Lib.hid ⟨by rw [decide_eq_true (by omega : 0 < k + 1)]; exact g3, Blk.keep hs.2.1 k3 (fun h => hne h.symm), bk hs.2.2 k3 hge1⟩⟩
        · have dlt : decide ((k : Int) < (len0 : Int)) = false := decide_eq_false (by omega)
          go_wp2_with fail
          refine (made_calls bo false _ hs.2.1).mono ?_
          rw [made0]
          rintro e u1 ⟨rfl, rfl⟩
          go_wp2_with fail
          go_ret
          exact ⟨rfl, hs.2.2⟩
end Go.Proofs.Ytanaaleojpbfbaa.GfOnceW
