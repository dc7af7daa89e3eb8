/- RingFits: what fits a half, and what is packed, by numbers alone. -/
import Derived.Test.YtanaaleojpbfbaaPRFix2
import Derived.Test.YtanaaleojpbfbaaRingWakes
namespace Go.Proofs.Ytanaaleojpbfbaa.Pure
open Go.RowKit Go.Proofs.Ytanaaleojpbfbaa.PRFi Go.Proofs.YtanaaleojpbfbaaW.PrintWords Go.Proofs.YtanaaleojpbfbaaW.PrintLast Go.Proofs.Ytanaaleojpbfbaa.RingPack

theorem wakes90 : trunnionlaw13_wakes.f 90 = some true := by decide +kernel

theorem head_at (a : Int) (h0 : 0 ≤ a) (h1 : a ≤ 96) : ring_Head.f a = some ((79 + 4 * a) / 64) := by
  unfold ring_Head.f
  rw [if_neg (by omega), if_neg (by omega)]
  congr 1
  have e1 : wrap64 (4 * a) = 4 * a := by unfold wrap64; omega
  have e2 : wrap64 (16 + 4 * a) = 16 + 4 * a := by unfold wrap64; omega
  have e3 : wrap64 (16 + 4 * a + 64) = 16 + 4 * a + 64 := by unfold wrap64; omega
  have e4 : wrap64 (16 + 4 * a + 64 - 1) = 79 + 4 * a := by unfold wrap64; omega
  rw [e1, e2, e3, e4, Int.tdiv_eq_ediv_of_nonneg (by omega)]
  unfold wrap64; omega

theorem need_at (a : Int) (h0 : 0 ≤ a) (h1 : a ≤ 96) : ring_Need.f a = some ((79 + 4 * a) / 64 + a) := by
  unfold ring_Need.f
  rw [head_at a h0 h1]
  simp only [Option.bind_some]
  rw [if_neg (by omega)]
  congr 1
  unfold wrap64; omega

/-- What packing comes to, of numbers that are none below nought. -/
theorem packs (xs : List Int) (hx : ∀ x ∈ xs, 0 ≤ x) : ∀ (left : Int) (n : Nat), 0 ≤ left →
    ∃ q : Nat, packL left xs n = n + q ∧ q ≤ xs.length ∧ 0 ≤ (xs.take q).sum ∧ (xs.take q).sum ≤ left ∧ (q < xs.length → (xs.take q).sum + rd xs q > left) := by
  induction xs with
  | nil => intro left n h; exact ⟨0, by simp [packL], by simp, by simp, by simpa using h, by simp⟩
  | cons x xs ih =>
    intro left n h
    have hx0 := hx x (by simp)
    by_cases hg : x > left
    · refine ⟨0, ?_, by simp, by simp, by simpa using h, ?_⟩
      · simp only [packL]; rw [if_pos (.inr hg)]; omega
      · intro _; simp [rd]; exact hg
    · obtain ⟨q, h1, h2, h3, h4, h5⟩ := ih (fun y hy => hx y (by simp [hy])) (left - x) (n + 1) (by omega)
      refine ⟨q + 1, ?_, by simp; omega, ?_, ?_, ?_⟩
      · simp only [packL]; rw [if_neg (by omega), h1]; omega
      · simp only [List.take_succ_cons, List.sum_cons]; omega
      · simp only [List.take_succ_cons, List.sum_cons]; omega
      · intro hq
        have := h5 (by simpa using hq)
        have e : rd (x :: xs) ((q + 1 : Nat) : Int) = rd xs q := by simp [rd]
        rw [e]
        simp only [List.take_succ_cons, List.sum_cons]; omega

theorem rd_drop (xs : List Int) (i : Nat) (h : i < xs.length) : xs.drop i = rd xs i :: xs.drop (i + 1) := RingPack.drop_rd xs i h

theorem loop0 (xs : List Int) (hl : xs.length ≤ 60) : ∀ (d i : Nat) (acc : List Int) (k : Nat), i + d = xs.length → acc.length ≤ i →
    trunnionlaw13_RingFits.l0 (k + d) acc xs (xs.length : Int) (i : Int) = trunnionlaw13_RingFits.l0 k (acc ++ (xs.drop i).map (fun x => (mx 0 x) % 40)) xs (xs.length : Int) (xs.length : Int) := by
  intro d
  induction d with
  | zero =>
    intro i acc k hi _
    have : i = xs.length := by omega
    subst this
    simp
  | succ d ih =>
    intro i acc k hi ha
    rw [show k + (d + 1) = (k + d) + 1 by omega, trunnionlaw13_RingFits.l0, if_pos (by omega), if_pos (by omega), if_pos (by omega), if_pos (by omega)]
    rw [show wrap64 ((i : Int) + 1) = ((i + 1 : Nat) : Int) by unfold wrap64; omega]
    rw [ih (i + 1) _ k (by omega) (by simp; omega), rd_drop xs i (by omega)]
    simp

theorem loop1 (x5 : List Int) (x8 : Int) (ys : List Int) (hl : ys.length ≤ 60) (hy : ∀ y ∈ ys, 0 ≤ y ∧ y < 40) : ∀ (d i : Nat) (s : Int) (k : Nat), i + d = ys.length → 0 ≤ s → s ≤ 40 * i →
    trunnionlaw13_RingFits.l1 (k + d) x5 x8 s ys (ys.length : Int) (i : Int) = trunnionlaw13_RingFits.l1 k x5 x8 (s + (ys.drop i).sum) ys (ys.length : Int) (ys.length : Int) := by
  intro d
  induction d with
  | zero =>
    intro i s k hi _ _
    have : i = ys.length := by omega
    subst this
    simp
  | succ d ih =>
    intro i s k hi h0 h1
    have hm : rd ys (i : Int) ∈ ys := by
      simp only [rd, Int.toNat_natCast, List.getD_eq_getElem?_getD, List.getElem?_eq_getElem (show i < ys.length by omega), Option.getD_some]
      exact List.getElem_mem _
    have hb := hy _ hm
    rw [show k + (d + 1) = (k + d) + 1 by omega, trunnionlaw13_RingFits.l1, if_pos (by omega), if_pos (by omega), if_pos (by omega)]
    rw [show wrap64 ((i : Int) + 1) = ((i + 1 : Nat) : Int) by unfold wrap64; omega, show wrap64 (s + rd ys i) = s + rd ys i by unfold wrap64; omega]
    rw [ih (i + 1) _ k (by omega) (by omega) (by omega), rd_drop ys i (by omega)]
    simp only [List.sum_cons]
    congr 1
    omega

/-- Behind the test on one number: the lists. -/
theorem lists (l0 : List Int) (hm : l0.length ≤ maxLen) : ∃ k, trunnionlaw13_RingFits.j0 k l0 false = some true := by
  unfold maxLen at hm
  obtain ⟨xs, hxs⟩ : ∃ xs, xs = l0.take ((mn (l0.length : Int) 60)).toNat := ⟨_, rfl⟩
  have hmn : 0 ≤ mn (l0.length : Int) 60 ∧ mn (l0.length : Int) 60 ≤ l0.length ∧ mn (l0.length : Int) 60 ≤ 60 := by unfold mn; omega
  have hl : xs.length ≤ 60 := by rw [hxs, List.length_take]; omega
  obtain ⟨ys, hys⟩ : ∃ ys, ys = xs.map (fun x => (mx 0 x) % 40) := ⟨_, rfl⟩
  have hyl : ys.length = xs.length := by rw [hys]; simp
  have hyb : ∀ y ∈ ys, 0 ≤ y ∧ y < 40 := by
    intro y hy
    rw [hys] at hy
    obtain ⟨x, _, rfl⟩ := List.mem_map.1 hy
    unfold mx
    omega
  obtain ⟨q, p1, p2, p3, p4, p5⟩ := packs ys (fun y hy => (hyb y hy).1) 44 0 (by omega)
  have hpk : ring_Pack.f ys = some (q : Int) := by
    unfold ring_Pack.f
    rw [if_pos (by omega), p1]; simp
  obtain ⟨zs, hzs⟩ : ∃ zs, zs = ys.take q := ⟨_, rfl⟩
  have hzl : zs.length = q := by rw [hzs, List.length_take]; omega
  have hzb : ∀ y ∈ zs, 0 ≤ y ∧ y < 40 := fun y hy => hyb y (by rw [hzs] at hy; exact List.mem_of_mem_take hy)
  refine ⟨1 + q + 1 + 1 + xs.length + 1, ?_⟩
  rw [trunnionlaw13_RingFits.j0, if_neg (by decide), if_pos hmn.1, if_pos hmn.2.1, ← hxs]
  have e0 := loop0 xs hl xs.length 0 [] (1 + q + 1 + 1) (by omega) (by simp)
  simp only [Int.natCast_zero, List.drop_zero, List.nil_append] at e0
  rw [e0, ← hys, trunnionlaw13_RingFits.l0, if_neg (by omega), hpk]
  simp only [Option.bind_some]
  rw [if_neg (by omega), decide_eq_false (by omega), trunnionlaw13_RingFits.j2, if_neg (by decide), if_pos (by omega), if_pos (by omega)]
  simp only [Int.toNat_natCast]
  rw [← hzs]
  simp only [Option.bind_some]
  have e1 := loop1 ys (q : Int) zs (by omega) hzb zs.length 0 0 1 (by omega) (by omega) (by omega)
  simp only [Int.natCast_zero, List.drop_zero] at e1
  rw [hzl] at e1 ⊢
  rw [e1, trunnionlaw13_RingFits.l1, if_neg (by omega)]
  have hs : zs.sum = (ys.take q).sum := by rw [hzs]
  rw [Int.zero_add, hs, need_at _ p3 (by omega)]
  simp only [Option.bind_some]
  rw [if_pos (by omega)]
  by_cases hq : q < ys.length
  · have h5 := p5 hq
    have hr : rd ys (q : Int) ∈ ys := by
      simp only [rd, Int.toNat_natCast, List.getD_eq_getElem?_getD, List.getElem?_eq_getElem hq, Option.getD_some]
      exact List.getElem_mem _
    have hb := hyb _ hr
    rw [if_neg (by omega), if_pos (by omega), if_pos (by omega), show wrap64 ((ys.take q).sum + rd ys q) = (ys.take q).sum + rd ys q by unfold wrap64; omega, need_at _ (by omega) (by omega)]
    simp only [Option.bind_some]
    rw [decide_eq_true (by omega)]
  · rw [if_pos (by omega)]

theorem one_small : ∀ n : Fin 97, (decide ((79 + 4 * (n.val : Int)) / 64 + n.val ≤ 48) != decide ((n.val : Int) ≤ 44)) = false ∧ decide ((79 + 4 * (n.val : Int)) / 64 + n.val < (n.val : Int) + 1) = false := by decide +kernel

theorem RingFits : trunnionlaw13_RingFits.Pure := by
  intro l0 a1 hm _ _ _
  obtain ⟨k, hk⟩ := lists l0 hm
  obtain ⟨n, hn⟩ : ∃ n, n = (mx 0 a1) % 97 := ⟨_, rfl⟩
  have hn0 : 0 ≤ n ∧ n ≤ 96 := by unfold mx at hn; omega
  refine ⟨max 90 k, ?_⟩
  have hw : trunnionlaw13_wakes.f (max 90 k) = some true := at_rounds (fun k => trunnionlaw13_wakes.mono k) (by omega) wakes90
  have hj : trunnionlaw13_RingFits.j0 (max 90 k) l0 false = some true := at_rounds (fun k => (trunnionlaw13_RingFits.mono_l k).1 l0 false) (by omega) hk
  unfold trunnionlaw13_RingFits.f
  rw [hw, ← hn]
  simp only [Option.bind_some, if_true]
  have hs := one_small ⟨n.toNat, by omega⟩
  have e : ((n.toNat : Nat) : Int) = n := by omega
  simp only [e] at hs
  rw [need_at n hn0.1 hn0.2]
  simp only [Option.bind_some, ring_Most.f]
  rw [hs.1, if_neg (by decide), hs.2, hj]
end Go.Proofs.Ytanaaleojpbfbaa.Pure
