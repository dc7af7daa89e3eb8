/- ring.Pack: how many lists fit, walked: the limit by its contract, the list as it is read. -/
import Derived.Test.YtanaaleojpbfbaaRing
namespace Go.Proofs.Ytanaaleojpbfbaa.RingPack
open Go.RowKit Go.Proofs.Ytanaaleojpbfbaa.Mem Go.Proofs.Ytanaaleojpbfbaa.Ring Go.Proofs.YtanaaleojpbfbaaW.PrintWords
set_option linter.unusedVariables false
set_option linter.unusedSimpArgs false

/-- From a place on, with so many left. -/
def packL : Int → List Int → Nat → Nat
  | _, [], n => n
  | left, k :: ks, n => if k < 0 ∨ k > left then n else packL (left - k) ks (n + 1)

theorem packL_end (left : Int) (n : Nat) : packL left [] n = n := rfl
theorem drop_rd (xs : List Int) (i : Nat) (h : i < xs.length) : xs.drop i = rd xs i :: xs.drop (i + 1) := by
  rw [List.drop_eq_getElem_cons h]
  simp [rd, List.getD_eq_getElem?_getD, List.getElem?_eq_getElem h]

set_option maxHeartbeats 800000 in
set_option maxRecDepth 100000 in
theorem pack_calls (A0 : Option Addr) (c0 : Nat) (l0 : List Int) (w : World) (hr : Kd.C (Kd.int .i64) w A0 l0.length l0) (hc0 : l0.length ≤ c0) (hl : l0.length ≤ 9223372036854775807) :
    Calls Try.prog 30 #[.slice A0 l0.length c0] w fun e w' => e = .returned (.int .i64 (packL 44 l0 0)) ∧ Below w.heap.size w w' := by
  have h0 := Blk.new w #[.int .u32 0, .int .i32 0, .int .u32 0, .int .i64 0] 76
  have HR := Lib.hid hr
  clear hr
  go_enter Try.func30, Try.ntmps30
  go_wp2_with fail
  refine (get_calls w.heap.size _ _ _ h0).mono ?_
  rintro e w1 ⟨rfl, hk⟩
  have hB : Below w.heap.size w w1 := (((Keep.refl (· = w.heap.size) w).alloc _).trans hk).below (by omega)
  have hR1 := Kd.C_below HR.out hB
  have HR1 := Lib.hid hR1
  clear hR1 HR hk h0
  go_wp2_with fail
  go_loop [4, 12] (fun l i => ∃ (k : Nat) (left : Int), k ≤ l0.length ∧ 0 ≤ left ∧ left ≤ 44 ∧ i = .int .i64 k ∧ l = .int .i64 left ∧ Hid (packL 44 l0 0 = packL left (l0.drop k) k)) (fun _ i => l0.length - (intOf i).toNat)
  case atStart => exact ⟨0, 44, by omega, by omega, by omega, rfl, rfl, Lib.hid rfl⟩
  case round =>
    obtain ⟨k, left, hk, hl0, hl1, rfl, rfl, HP⟩ := hrel
    by_cases hlt : k < l0.length
    · have q1 : (k : Int) < (l0.length : Int) := by omega
      obtain ⟨ad, e, hx⟩ := Kd.at_int HR1.out k (by omega) q1
      cases e
      simp only [Int.toNat_natCast] at hx
      have hp := HP.out
      rw [drop_rd l0 k hlt] at hp
      obtain ⟨x, hxx⟩ : ∃ x, x = rd l0 (k : Int) := ⟨_, rfl⟩
      rw [← hxx] at hp hx
      have q2 : decide ((k : Int) < (l0.length : Int)) = true := decide_eq_true q1
      simp only [packL] at hp
      by_cases hn : x < 0
      · rw [if_pos (.inl hn)] at hp
        have HP2 := Lib.hid hp
        clear hp HP hxx
        have d1 : decide (x < 0) = true := decide_eq_true hn
        clear hn
        go_wp2
        go_ret
        exact ⟨by rw [HP2.out]; rfl, hB⟩
      · have d1 : decide (x < 0) = false := decide_eq_false hn
        by_cases hg : x > left
        · rw [if_pos (.inr hg)] at hp
          have HP2 := Lib.hid hp
          clear hp HP hxx
          have d2 : decide (left < x) = true := decide_eq_true hg
          go_wp2
          go_ret
          exact ⟨by rw [HP2.out]; rfl, hB⟩
        · rw [if_neg (by omega)] at hp
          have HP2 := Lib.hid hp
          clear hp HP hxx
          have d2 : decide (left < x) = false := decide_eq_false hg
          go_wp2
          go_round
          case measure => simp [intOf]; omega
          case rel => exact ⟨k + 1, left - x, by omega, by omega, by omega, by go_num, by first | rfl | go_num, HP2⟩
    · have hk' : k = l0.length := by omega
      have hp := HP.out
      rw [hk', List.drop_length, packL_end] at hp
      have HP2 := Lib.hid hp
      clear hp HP
      have d : decide ((k : Int) < (l0.length : Int)) = false := decide_eq_false (by omega)
      clear hk'
      go_wp2
      go_ret
      exact ⟨by rw [HP2.out]; rfl, hB⟩
end Go.Proofs.Ytanaaleojpbfbaa.RingPack
