/- The references' quotient, logarithm and power are the field's. -/
import Derived.Test.YtanaaleojpbfbaaGfOps
import Derived.Test.YtanaaleojpbfbaaPGfRx1
namespace Go.Proofs.Ytanaaleojpbfbaa.Gf
open Go.RowKit Go.Proofs.Ytanaaleojpbfbaa.Gmul Go.Proofs.Ytanaaleojpbfbaa.PGfR Go.Proofs.YtanaaleojpbfbaaW.PrintWords

theorem pw_next (i : Nat) : gmul (pw i) 2 = pw (i + 1) := (pw.eq_2 i).symm
theorem pw_zero : pw 0 = 1 := rfl
theorem wrap_next (i : Nat) (h : i < 1000) : wrap64 ((i : Int) + 1) = ((i + 1 : Nat) : Int) := by unfold wrap64; omega
attribute [local irreducible] gmul pw lg gdiv
theorem mulf (a b : Nat) (ha : a < 256) (hb : b < 256) : trunnionref01_Mul.f a b = some ((gmul a b : Nat) : Int) := by
  unfold trunnionref01_Mul.f
  rw [if_pos (by omega)]; simp
theorem mul2 (a : Nat) (ha : a < 256) : trunnionref01_Mul.f a 2 = some ((gmul a 2 : Nat) : Int) := mulf a 2 ha (by decide)
theorem div_loop (a b : Nat) (ha : a < 256) (hb : b < 256) (h0 : b ≠ 0) : ∀ (d i k : Nat), i + d = gdiv a b → trunnionref02_Div.l0 (k + d + 1) a b i = some (((gdiv a b : Nat) : Int), (0 : Int)) := by
  have hq := gdiv_lt a b
  intro d
  induction d with
  | zero =>
    intro i k hi
    have hi' : i = gdiv a b := by omega
    subst hi'
    rw [show k + 0 + 1 = k + 1 by omega, trunnionref02_Div.l0, if_pos (by omega), show ((gdiv a b : Nat) : Int) % 256 = ((gdiv a b : Nat) : Int) by omega, mulf _ _ hq hb]
    rw [Option.bind_some]
    rw [gmul_gdiv a b ha hb h0, if_pos rfl]
  | succ d ih =>
    intro i k hi
    rw [show k + (d + 1) + 1 = (k + d + 1) + 1 by omega, trunnionref02_Div.l0, if_pos (by omega), show (i : Int) % 256 = (i : Int) by omega, mulf _ _ (by omega) hb]
    rw [Option.bind_some]
    rw [if_neg (fun e => by
      have e' : gmul i b = a := by omega
      have := gdiv_unique a b i ha hb (by omega) h0 e'
      omega), wrap_next i (by omega), ih (i + 1) k (by omega)]
theorem ref_div (a b : Nat) (ha : a < 256) (hb : b < 256) : trunnionref02_Div.f 300 a b = some (((quo a b : Nat) : Int), zerr b) := by
  unfold trunnionref02_Div.f quo zerr
  by_cases h0 : b = 0
  · subst h0; rw [if_pos (by decide), if_pos rfl, if_pos rfl]; rfl
  · rw [if_neg (by omega), if_neg h0, if_neg h0]
    have hq := gdiv_lt a b
    have := div_loop a b ha hb h0 (gdiv a b) 0 (299 - gdiv a b) (by omega)
    rw [show 299 - gdiv a b + gdiv a b + 1 = 300 by omega] at this
    exact this
theorem log_ne (a i : Nat) (hi : i < lg a) : ¬ ((pw i : Nat) : Int) = (a : Int) := fun e => by
  have hq := lg_lt a
  have h := lg_pw i (Nat.lt_trans hi hq)
  rw [Int.ofNat.inj e] at h
  exact absurd hi (by rw [h]; exact Nat.lt_irrefl _)
theorem log_loop (a L : Nat) (hl : (L : Int) < 255) (hne : ∀ i, i < L → ¬ ((pw i : Nat) : Int) = (a : Int)) (he : ((pw L : Nat) : Int) = (a : Int)) : ∀ (d i k : Nat), i + d = L → trunnionref02_Log.l0 (k + d + 1) a (pw i) i = some ((L : Int), (0 : Int)) := by
  intro d
  induction d with
  | zero =>
    intro i k hi
    have hi' : i = L := by omega
    subst hi'
    rw [show k + 0 + 1 = k + 1 by omega, trunnionref02_Log.l0, if_pos hl, if_pos he]
  | succ d ih =>
    intro i k hi
    have h1 : (i : Int) < 255 := by omega
    have h2 := hne i (by omega)
    have h3 := wrap_next i (by omega)
    rw [show k + (d + 1) + 1 = (k + d + 1) + 1 by omega, trunnionref02_Log.l0, if_pos h1, if_neg h2, mul2 _ (pw_lt i)]
    rw [Option.bind_some]
    rw [h3, pw_next, ih (i + 1) k (by omega)]
theorem log_none : ∀ (d i k : Nat), i + d = 255 → trunnionref02_Log.l0 (k + d + 1) 0 (pw i) i = some (0, 5) := by
  intro d
  induction d with
  | zero =>
    intro i k hi
    have : i = 255 := by omega
    subst this
    rw [show k + 0 + 1 = k + 1 by omega, trunnionref02_Log.l0, if_neg (by decide)]
  | succ d ih =>
    intro i k hi
    rw [show k + (d + 1) + 1 = (k + d + 1) + 1 by omega, trunnionref02_Log.l0, if_pos (by omega), if_neg (fun e => pw_ne i (by omega)), mul2 _ (pw_lt i)]
    rw [Option.bind_some]
    rw [wrap_next i (by omega), pw_next, ih (i + 1) k (by omega)]
theorem ref_log (a : Nat) (ha : a < 256) : trunnionref02_Log.f 300 a = some (((lgOr a : Nat) : Int), zerr a) := by
  unfold trunnionref02_Log.f lgOr zerr
  by_cases h0 : a = 0
  · subst h0
    have := log_none 255 0 44 (by omega)
    rw [pw_zero] at this
    exact this
  · rw [if_neg h0, if_neg h0]
    have hq := lg_lt a
    have he : ((pw (lg a) : Nat) : Int) = (a : Int) := by rw [pw_lg a h0 ha]
    have hn := log_ne a
    obtain ⟨L, hL⟩ : ∃ L, L = lg a := ⟨_, rfl⟩
    rw [← hL] at hq he hn ⊢
    clear hL
    have := log_loop a L (by omega) hn he L 0 (299 - L) (by omega)
    rw [show 299 - L + L + 1 = 300 by omega, pw_zero] at this
    exact this
theorem exp_loop (n : Nat) (hn : n < 256) : ∀ (d i k : Nat), i + d = n → trunnionref02_Exp.l0 (k + d + 1) n (pw i) i = some ((pw n : Nat) : Int) := by
  intro d
  induction d with
  | zero =>
    intro i k hi
    have hi' : i = n := by omega
    subst hi'
    rw [show k + 0 + 1 = k + 1 by omega, trunnionref02_Exp.l0, if_neg (by omega)]
  | succ d ih =>
    intro i k hi
    rw [show k + (d + 1) + 1 = (k + d + 1) + 1 by omega, trunnionref02_Exp.l0, if_pos (by omega), mul2 _ (pw_lt i)]
    rw [Option.bind_some]
    rw [wrap_next i (by omega), pw_next, ih (i + 1) k (by omega)]
theorem ref_exp (n : Int) : trunnionref02_Exp.f 300 n = some ((pw (ix n) : Nat) : Int) := by
  have hx : ix n < 255 := by unfold ix; omega
  have hl := exp_loop (ix n) (by omega) (ix n) 0 (298 - ix n) (by omega)
  rw [show 298 - ix n + ix n + 1 = 299 by omega, pw_zero] at hl
  have hl' : trunnionref02_Exp.l0 299 (ix n : Int) 1 0 = some ((pw (ix n) : Nat) : Int) := hl
  obtain ⟨g1, g2, g3⟩ := ix_go n
  unfold trunnionref02_Exp.f
  by_cases hn : Int.tmod n 255 < 0
  · rw [if_pos hn, show wrap64 (Int.tmod n 255 + 255) = (ix n : Int) by unfold wrap64; omega, trunnionref02_Exp.j0, hl']
  · rw [if_neg hn, show Int.tmod n 255 = (ix n : Int) by
      have : Int.tmod n 255 < 255 := by
        rcases Int.le_total 0 n with h | h
        · rw [Int.tmod_eq_emod_of_nonneg h]; omega
        · obtain ⟨m, rfl⟩ : ∃ m : Nat, n = -(m : Int) := ⟨n.natAbs, by omega⟩
          rw [Int.neg_tmod, Int.tmod_eq_emod_of_nonneg (by omega)] at hn ⊢; omega
      omega, trunnionref02_Exp.j0, hl']
end Go.Proofs.Ytanaaleojpbfbaa.Gf
