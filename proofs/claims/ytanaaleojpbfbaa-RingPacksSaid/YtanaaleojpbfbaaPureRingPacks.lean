/- RingPacks: how many lists fit is the same by both ways of reckoning, by numbers alone. -/
import Derived.Test.YtanaaleojpbfbaaPRPax2
namespace Go.Proofs.Ytanaaleojpbfbaa.Pure
open Go.RowKit Go.Proofs.Ytanaaleojpbfbaa.PRPa Go.Proofs.YtanaaleojpbfbaaW.PrintWords Go.Proofs.YtanaaleojpbfbaaW.PrintLast Go.Proofs.Ytanaaleojpbfbaa.RingPack

theorem packs_wakes : trunnionlaw13_wakes.f 90 = some true := by decide +kernel
theorem packs_most : trunnionref13_Most.f 60 = some 44 := by decide +kernel

theorem ref_loop (xs : List Int) (hl : xs.length ≤ 100) (hw : ∀ x ∈ xs, -9223372036854775808 ≤ x ∧ x ≤ 9223372036854775807) : ∀ (d i : Nat) (s : Int) (k : Nat), i + d = xs.length → 0 ≤ s → s ≤ 44 →
    trunnionref13_Pack.l0 (k + 2 * d + 1) xs 44 s (i : Int) = some ((packL (44 - s) (xs.drop i) i : Nat) : Int) := by
  intro d
  induction d with
  | zero =>
    intro i s k hi _ _
    have : i = xs.length := by omega
    subst this
    rw [trunnionref13_Pack.l0, if_neg (by omega), List.drop_length]
    simp [packL]
  | succ d ih =>
    intro i s k hi h0 h1
    have hm : rd xs (i : Int) ∈ xs := by
      simp only [rd, Int.toNat_natCast, List.getD_eq_getElem?_getD, List.getElem?_eq_getElem (show i < xs.length by omega), Option.getD_some]
      exact List.getElem_mem _
    have hb := hw _ hm
    rw [show k + 2 * (d + 1) + 1 = (k + 2 * d + 1 + 1) + 1 by omega, trunnionref13_Pack.l0, if_pos (by omega), if_pos (by omega)]
    rw [drop_rd xs i (by omega)]
    simp only [packL]
    by_cases hn : rd xs (i : Int) < 0
    · rw [if_pos hn, if_pos (.inl hn), trunnionref13_Pack.j1, if_pos rfl]
    · rw [if_neg hn]
      by_cases hg : rd xs (i : Int) > 44
      · rw [decide_eq_true hg, if_pos (.inr (by omega)), trunnionref13_Pack.j1, if_pos rfl]
      · rw [decide_eq_false hg, trunnionref13_Pack.j1, if_neg (by decide), if_pos (by omega), if_pos (by omega), show wrap64 (s + rd xs i) = s + rd xs i by unfold wrap64; omega]
        by_cases hs : s + rd xs (i : Int) > 44
        · rw [if_pos hs, if_pos (.inr (by omega))]
        · rw [if_neg hs, if_neg (by omega), show wrap64 ((i : Int) + 1) = ((i + 1 : Nat) : Int) by unfold wrap64; omega]
          rw [ih (i + 1) _ k (by omega) (by omega) (by omega)]
          rw [show 44 - s - rd xs (i : Int) = 44 - (s + rd xs (i : Int)) by omega]

theorem ref_packs (xs : List Int) (hl : xs.length ≤ 100) (hw : ∀ x ∈ xs, -9223372036854775808 ≤ x ∧ x ≤ 9223372036854775807) (k : Nat) (hk : 300 ≤ k) :
    trunnionref13_Pack.f k xs = some ((packL 44 xs 0 : Nat) : Int) := by
  unfold trunnionref13_Pack.f
  rw [at_rounds (fun k => trunnionref13_Most.mono k) (by omega) packs_most]
  simp only [Option.bind_some]
  have h := ref_loop xs hl hw xs.length 0 0 (k - 2 * xs.length - 1) (by omega) (by omega) (by omega)
  rw [show k - 2 * xs.length - 1 + 2 * xs.length + 1 = k by omega] at h
  simpa using h

theorem masks (x5 : Bool) (len : Nat) (hl : len ≤ 100) : ∀ (d i : Nat) (xs : List Int) (k : Nat), i + d = len → xs.length = len → (∀ x ∈ xs, -9223372036854775808 ≤ x ∧ x ≤ 9223372036854775807) →
    ∃ ys, ys.length = len ∧ (∀ x ∈ ys, -9223372036854775808 ≤ x ∧ x ≤ 9223372036854775807) ∧ trunnionlaw13_RingPacks.l0 (k + d) xs x5 (len : Int) (i : Int) = trunnionlaw13_RingPacks.l0 k ys x5 (len : Int) (len : Int) := by
  intro d
  induction d with
  | zero =>
    intro i xs k hi hx hw
    have : i = len := by omega
    subst this
    exact ⟨xs, hx, hw, rfl⟩
  | succ d ih =>
    intro i xs k hi hx hw
    have hb : -9223372036854775808 ≤ Go.bits .and .i64 (rd xs (i : Int)) 31 ∧ Go.bits .and .i64 (rd xs (i : Int)) 31 ≤ 9223372036854775807 := by
      have e : ∀ n : Int, -9223372036854775808 ≤ IntKind.i64.wrap n ∧ IntKind.i64.wrap n ≤ 9223372036854775807 := fun n => by rw [IntKind.wrap_i64]; omega
      simp only [Go.bits]
      exact e _
    obtain ⟨ys, h1, h2, h3⟩ := ih (i + 1) (xs.set i (Go.bits .and .i64 (rd xs (i : Int)) 31)) k (by omega) (by simp [hx]) (fun x hm => by
      rcases List.mem_or_eq_of_mem_set hm with h | h
      · exact hw x h
      · rw [h]; exact hb)
    refine ⟨ys, h1, h2, ?_⟩
    rw [show k + (d + 1) = (k + d) + 1 by omega, trunnionlaw13_RingPacks.l0, if_pos (by omega), if_pos (by omega), if_pos (by omega), show wrap64 ((i : Int) + 1) = ((i + 1 : Nat) : Int) by unfold wrap64; omega]
    simp only [Int.toNat_natCast]
    exact h3

theorem RingPacks : trunnionlaw13_RingPacks.Pure := by
  intro l0 a1 hm _ hw _
  unfold maxLen at hm
  obtain ⟨xs, hxs⟩ : ∃ xs, xs = l0.take ((mn (l0.length : Int) 100)).toNat := ⟨_, rfl⟩
  have hmn : 0 ≤ mn (l0.length : Int) 100 ∧ mn (l0.length : Int) 100 ≤ l0.length ∧ mn (l0.length : Int) 100 ≤ 100 := by unfold mn; omega
  have hl : xs.length ≤ 100 := by rw [hxs, List.length_take]; omega
  have hxw : ∀ x ∈ xs, -9223372036854775808 ≤ x ∧ x ≤ 9223372036854775807 := by
    intro x hx
    have h := hw x (by rw [hxs] at hx; exact List.mem_of_mem_take hx)
    simp [Lit.wf, IntKind.min, IntKind.max, IntKind.signed, IntKind.bits] at h
    omega
  obtain ⟨ys, y1, y2, y3⟩ := masks true xs.length hl xs.length 0 xs 400 (by omega) rfl hxw
  refine ⟨400 + xs.length, ?_⟩
  unfold trunnionlaw13_RingPacks.f
  rw [if_pos hmn.1, if_pos hmn.2.1, ← hxs, if_pos (by simp; omega)]
  simp only [Option.bind_some]
  have hp : ring_Pack.f xs = some ((packL 44 xs 0 : Nat) : Int) := by unfold ring_Pack.f; rw [if_pos (by omega)]
  have hp2 : ring_Pack.f ys = some ((packL 44 ys 0 : Nat) : Int) := by unfold ring_Pack.f; rw [if_pos (by omega)]
  rw [hp, ref_packs xs hl hxw _ (by omega)]
  simp only [Option.bind_some, beq_self_eq_true]
  simp only [Int.natCast_zero] at y3
  rw [y3, trunnionlaw13_RingPacks.l0, if_neg (by omega), at_rounds (fun k => trunnionlaw13_wakes.mono k) (by omega) packs_wakes, hp2, ref_packs ys (by omega) y2 _ (by omega)]
  simp
end Go.Proofs.Ytanaaleojpbfbaa.Pure
