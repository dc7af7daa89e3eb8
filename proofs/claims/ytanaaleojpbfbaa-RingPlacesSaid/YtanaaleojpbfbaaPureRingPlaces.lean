/- RingPlaces: where a batch's sectors and its mark stand is the same by both ways of reckoning. -/
import Derived.Test.YtanaaleojpbfbaaPRPlx2
import Derived.Laws.BitsLemmas
namespace Go.Proofs.Ytanaaleojpbfbaa.Pure
open Go.RowKit Go.Proofs.Ytanaaleojpbfbaa.PRPl Go.Proofs.YtanaaleojpbfbaaW.PrintWords Go.Proofs.YtanaaleojpbfbaaW.PrintLast

theorem wraps_i64 (n : Int) (h0 : 0 ≤ n) (h1 : n < 2 ^ 63) : IntKind.i64.wrap n = n := by rw [IntKind.wrap_i64]; omega
theorem and1 (x : Int) (h0 : 0 ≤ x) (h1 : x < 2 ^ 63) : Go.bits .and .i64 x 1 = x % 2 := bits_mask .i64 63 (by decide) wraps_i64 1 (by decide) x h0 h1

/-- So many numbers from one on. -/
def fromN (a : Int) (n : Nat) : List Int := List.map (fun (i : Nat) => a + (i : Int)) (List.range n)

theorem places_small : ∀ n : Fin 49, ring_Places.l0 60 4 [] n.val 0 = some (fromN 4 n.val, 0) ∧ ring_Places.l0 60 52 [] n.val 0 = some (fromN 52 n.val, 0)
    ∧ trunnionref13_Places.l0 60 n.val 4 [] 0 = some (fromN 4 n.val, 0) ∧ trunnionref13_Places.l0 60 n.val 52 [] 0 = some (fromN 52 n.val, 0) := by decide +kernel

theorem equal_small : ∀ n : Fin 49, trunnionlaw13_equal.f 60 (fromN 4 n.val) (fromN 4 n.val) = some true ∧ trunnionlaw13_equal.f 60 (fromN 52 n.val) (fromN 52 n.val) = some true := by decide +kernel

/-- What the sectors are, and the error. -/
theorem places_at (q n : Int) (hq : 1 ≤ q) (hq' : q ≤ 9007199254740992) (h0 : 0 ≤ n) (h1 : n ≤ 48) :
    ring_Places.f 60 q n = some (fromN (4 + 48 * (q % 2)) n.toNat, 0) := by
  have ha : ring_may.f q = some true := by unfold ring_may.f; rw [if_pos hq, decide_eq_true hq']
  unfold ring_Places.f
  rw [ha, and1 q (by omega) (by omega)]
  simp only [Option.bind_some, if_true]
  rw [if_neg (by omega), if_neg (by omega)]
  have hs := places_small ⟨n.toNat, by omega⟩
  have e : ((n.toNat : Nat) : Int) = n := by omega
  simp only [e] at hs
  rcases (show q % 2 = 0 ∨ q % 2 = 1 by omega) with h | h <;> rw [h]
  · rw [show wrap64 (4 + wrap64 (0 * 48)) = 4 by decide +kernel]; exact hs.1
  · rw [show wrap64 (4 + wrap64 (1 * 48)) = 52 by decide +kernel]; exact hs.2.1

theorem ref_at (q n : Int) (hq : 1 ≤ q) (hq' : q ≤ 9007199254740992) (h0 : 0 ≤ n) (h1 : n ≤ 48) :
    trunnionref13_Places.f 63 q n = some (fromN (4 + 48 * (q % 2)) n.toNat, 0) := by
  unfold trunnionref13_Places.f
  rw [if_neg (by omega), decide_eq_false (by omega)]
  simp only [trunnionref13_Places.j0, if_neg (show ¬ (false = true) by decide)]
  rw [if_neg (by omega), decide_eq_false (by omega)]
  simp only [trunnionref13_Places.j1, if_neg (show ¬ (false = true) by decide)]
  have hs := places_small ⟨n.toNat, by omega⟩
  have e : ((n.toNat : Nat) : Int) = n := by omega
  simp only [e] at hs
  have ht : Int.tmod q 2 = q % 2 := Int.tmod_eq_emod_of_nonneg (by omega)
  rw [ht]
  rcases (show q % 2 = 0 ∨ q % 2 = 1 by omega) with h | h <;> rw [h]
  · rw [if_neg (by decide)]; simp only [trunnionref13_Places.j2]; exact hs.2.2.1
  · rw [if_pos rfl]; simp only [trunnionref13_Places.j2]; exact hs.2.2.2

theorem both (q n : Int) : ∃ xs e, ring_Places.f 70 q n = some (xs, e) ∧ trunnionref13_Places.f 70 q n = some (xs, e) ∧ trunnionlaw13_equal.f 70 xs xs = some true := by
  have up : ∀ {xs e}, ring_Places.f 60 q n = some (xs, e) → ring_Places.f 70 q n = some (xs, e) := fun h => at_rounds (fun k => ring_Places.mono q n k) (by decide) h
  have up2 : ∀ {xs e}, trunnionref13_Places.f 63 q n = some (xs, e) → trunnionref13_Places.f 70 q n = some (xs, e) := fun h => at_rounds (fun k => trunnionref13_Places.mono q n k) (by decide) h
  have hn : trunnionlaw13_equal.f 70 [] [] = some true := by decide +kernel
  by_cases hq : 1 ≤ q ∧ q ≤ 9007199254740992
  · have ha : ring_may.f q = some true := by unfold ring_may.f; rw [if_pos hq.1, decide_eq_true hq.2]
    by_cases h0 : n < 0
    · refine ⟨[], 3, up ?_, up2 ?_, hn⟩
      · unfold ring_Places.f; rw [ha]; simp only [Option.bind_some, if_true]; rw [if_pos h0]
      · unfold trunnionref13_Places.f
        rw [if_neg (by omega), decide_eq_false (by omega)]
        simp only [trunnionref13_Places.j0, if_neg (show ¬ (false = true) by decide)]
        rw [if_pos h0]; simp [trunnionref13_Places.j1]
    · by_cases h1 : n > 48
      · refine ⟨[], 3, up ?_, up2 ?_, hn⟩
        · unfold ring_Places.f; rw [ha]; simp only [Option.bind_some, if_true]; rw [if_neg h0, if_pos h1]
        · unfold trunnionref13_Places.f
          rw [if_neg (by omega), decide_eq_false (by omega)]
          simp only [trunnionref13_Places.j0, if_neg (show ¬ (false = true) by decide)]
          rw [if_neg h0, decide_eq_true h1]; simp [trunnionref13_Places.j1]
      · refine ⟨_, _, up (places_at q n hq.1 hq.2 (by omega) (by omega)), up2 (ref_at q n hq.1 hq.2 (by omega) (by omega)), ?_⟩
        have hs := equal_small ⟨n.toNat, by omega⟩
        rcases (show q % 2 = 0 ∨ q % 2 = 1 by omega) with h | h <;> rw [h]
        · exact at_rounds (fun k => trunnionlaw13_equal.mono _ _ k) (by decide) hs.1
        · exact at_rounds (fun k => trunnionlaw13_equal.mono _ _ k) (by decide) hs.2
  · have ha : ring_may.f q = some false := by
      unfold ring_may.f
      by_cases h : q ≥ 1
      · rw [if_pos h, decide_eq_false (fun h' => hq ⟨h, h'⟩)]
      · rw [if_neg h]
    refine ⟨[], 2, up ?_, up2 ?_, hn⟩
    · unfold ring_Places.f; rw [ha]; simp
    · unfold trunnionref13_Places.f
      by_cases h : q < 1
      · rw [if_pos h]; simp [trunnionref13_Places.j0]
      · rw [if_neg h, decide_eq_true (by omega)]; simp [trunnionref13_Places.j0]

theorem marks (q : Int) : ∃ x e, ring_Mark.f q = some (x, e) ∧ trunnionref13_Mark.f 70 q = some (x, e) := by
  by_cases hq : 1 ≤ q ∧ q ≤ 9007199254740992
  · have ha : ring_may.f q = some true := by unfold ring_may.f; rw [if_pos hq.1, decide_eq_true hq.2]
    refine ⟨2 + q % 2, 0, ?_, ?_⟩
    · unfold ring_Mark.f; rw [ha, and1 q (by omega) (by omega)]
      simp only [Option.bind_some, if_true]
      rw [show wrap64 (2 + q % 2) = 2 + q % 2 by unfold wrap64; omega]
    · unfold trunnionref13_Mark.f
      rw [if_neg (by omega), decide_eq_false (by omega)]
      simp only [trunnionref13_Mark.j0, if_neg (show ¬ (false = true) by decide)]
      rw [show Int.tmod q 2 = q % 2 from Int.tmod_eq_emod_of_nonneg (by omega)]
      rcases (show q % 2 = 0 ∨ q % 2 = 1 by omega) with h | h <;> rw [h] <;> decide
  · have ha : ring_may.f q = some false := by
      unfold ring_may.f
      by_cases h : q ≥ 1
      · rw [if_pos h, decide_eq_false (fun h' => hq ⟨h, h'⟩)]
      · rw [if_neg h]
    refine ⟨0, 2, ?_, ?_⟩
    · unfold ring_Mark.f; rw [ha]; simp
    · unfold trunnionref13_Mark.f
      by_cases h : q < 1
      · rw [if_pos h]; simp [trunnionref13_Mark.j0]
      · rw [if_neg h, decide_eq_true (by omega)]; simp [trunnionref13_Mark.j0]

theorem wakes70 : trunnionlaw13_wakes.f 70 = some true := by decide +kernel

theorem RingPlaces : trunnionlaw13_RingPlaces.Pure := by
  intro q n _ _
  have g : ∀ n, ∃ xs e, ring_Places.f 70 q n = some (xs, e) ∧ trunnionref13_Places.f 70 q n = some (xs, e) ∧ trunnionlaw13_equal.f 70 xs xs = some true := both q
  refine ⟨73, ?_⟩
  unfold trunnionlaw13_RingPlaces.f
  simp only [Option.bind_some]
  obtain ⟨m, hm⟩ : ∃ m, m = Go.bits .and .i64 n 63 := ⟨_, rfl⟩
  rw [← hm]
  clear hm
  have step : ∀ k n, 70 ≤ k → ∃ xs e, ring_Places.f k q n = some (xs, e) ∧ trunnionref13_Places.f k q n = some (xs, e) ∧ trunnionlaw13_equal.f k xs xs = some true := by
    intro k n hk
    obtain ⟨xs, e, h1, h2, h3⟩ := g n
    exact ⟨xs, e, at_rounds (fun k => ring_Places.mono q n k) hk h1, at_rounds (fun k => trunnionref13_Places.mono q n k) hk h2, at_rounds (fun k => trunnionlaw13_equal.mono _ _ k) hk h3⟩
  obtain ⟨xs, e, h1, h2, h3⟩ := step 72 n (by decide)
  obtain ⟨ys, d, k1, k2, k3⟩ := step 71 m (by decide)
  obtain ⟨x, c, m1, m2⟩ := marks q
  have w0 : wrap64 (0 + 1) = 1 := by decide +kernel
  have w1 : wrap64 (1 + 1) = 2 := by decide +kernel
  have r0 : rd [n, m] 0 = n := rfl
  have r1 : rd [n, m] 1 = m := rfl
  have hl : (([n, m] : List Int).length : Int) = 2 := rfl
  rw [hl]
  rw [trunnionlaw13_RingPlaces.l0, if_pos (by decide), if_pos (by decide), if_pos (by rw [hl]; decide), r0, h1, h2]
  simp only [Option.bind_some]
  rw [h3]
  simp only [Option.bind_some, if_true, w0]
  rw [trunnionlaw13_RingPlaces.l0, if_pos (by decide), if_pos (by decide), if_pos (by rw [hl]; decide), r1, k1, k2]
  simp only [Option.bind_some]
  rw [k3]
  simp only [Option.bind_some, if_true, w1]
  rw [trunnionlaw13_RingPlaces.l0, if_neg (by decide), m1, m2, wakes70]
  simp
end Go.Proofs.Ytanaaleojpbfbaa.Pure
