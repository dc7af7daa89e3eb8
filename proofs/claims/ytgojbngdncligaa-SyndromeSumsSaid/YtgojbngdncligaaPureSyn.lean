/- The document's parities are the program's: each column times its weight, and Horner's rule, place by place. -/
import Derived.Test.YtgojbngdncligaaSynOps
import Derived.Test.YtgojbngdncligaaPBkx2
namespace Go.Proofs.Ytgojbngdncligaa.Syn
open Go.RowKit Go.Proofs.Ytgojbngdncligaa.Mem Go.Proofs.Ytgojbngdncligaa.Bulk Go.Proofs.Ytgojbngdncligaa.Gmul Go.Proofs.Ytgojbngdncligaa.Lanes Go.Proofs.Ytgojbngdncligaa.PBk
open Go.Proofs.YtgojbngdncligaaW.PrintWords hiding bt
set_option linter.unusedVariables false
set_option linter.unusedSimpArgs false

def AllSz (n : Nat) (ss : List ByteArray) : Prop := ∀ s ∈ ss, s.size = n
/-- Horner's rule at 2. -/
def hor : List Nat → Nat
  | [] => 0
  | x :: r => gmul (hor r) 2 ^^^ x
def xsum : List Nat → Nat
  | [] => 0
  | x :: r => x ^^^ xsum r
def wsum : Nat → List Nat → Nat
  | _, [] => 0
  | i, x :: r => gmul x (pw i) ^^^ wsum (i + 1) r
theorem hor_lt (l : List Nat) (h : ∀ x ∈ l, x < 256) : hor l < 256 := by
  induction l with
  | nil => decide
  | cons x r ih => exact xor_lt8 _ _ (gmul_lt _ _) (h x (by simp))
theorem pw_succ (i : Nat) : gmul (pw i) 2 = pw (i + 1) := by conv => rhs; unfold pw
theorem wsum_hor : ∀ (l : List Nat) (i : Nat), (∀ x ∈ l, x < 256) → wsum i l = gmul (hor l) (pw i)
  | [], i, _ => by show 0 = gmul 0 _; rw [gmul_zero_left]
  | x :: r, i, h => by
    show gmul x (pw i) ^^^ wsum (i + 1) r = gmul (gmul (hor r) 2 ^^^ x) (pw i)
    rw [wsum_hor r (i + 1) (fun y hy => h y (by simp [hy])), gmul_xor_left, gmul_assoc _ _ _ (hor_lt r (fun y hy => h y (by simp [hy]))) (by decide) (pw_lt i), gmul_comm 2 (pw i) (by decide) (pw_lt i), pw_succ, Nat.xor_comm]
theorem wsum_zero (l : List Nat) (h : ∀ x ∈ l, x < 256) : wsum 0 l = hor l := by
  rw [wsum_hor l 0 h]; exact gmul_one _ (hor_lt l h)
theorem bats_lt (ss : List ByteArray) (j : Nat) : ∀ x ∈ ss.map (bat · j), x < 256 := by
  intro x hx; simp at hx; obtain ⟨s, _, rfl⟩ := hx; exact bat_lt s j

theorem noughts_bat (n j : Nat) : bat (noughts n) j = 0 := by
  unfold noughts
  rw [bat_txt _ (by intro b hb; rw [List.mem_replicate] at hb; omega), List.getD_eq_getElem?_getD, List.getElem?_replicate]
  split <;> rfl
theorem noughts_size (n : Nat) : (noughts n).size = n := BulkLimitsW.noughts_size n
theorem dstep_fit (q s : ByteArray) (n : Nat) (hn : n ≤ 65536) (hq : q.size = n) (hs : s.size = n) : dstep q s = bDouble q s := by
  unfold dstep; rw [fit_pair q s (by omega) (by omega), none_zero]
theorem dfold_at (n : Nat) (hn : n ≤ 65536) : ∀ (ss : List ByteArray), AllSz n ss → (ss.reverse.foldl dstep (noughts n)).size = n ∧ ∀ j, bat (ss.reverse.foldl dstep (noughts n)) j = hor (ss.map (bat · j))
  | [], _ => ⟨noughts_size n, fun j => noughts_bat n j⟩
  | s :: r, h => by
    obtain ⟨h1, h2⟩ := dfold_at n hn r (fun x hx => h x (by simp [hx]))
    have hs := h s (by simp)
    rw [List.reverse_cons, List.foldl_append]
    show (dstep (r.reverse.foldl dstep (noughts n)) s).size = n ∧ ∀ j, bat (dstep (r.reverse.foldl dstep (noughts n)) s) j = _
    rw [dstep_fit _ _ n hn h1 hs]
    refine ⟨by rw [double_size _ _ (by omega)]; exact h1, fun j => ?_⟩
    rw [bat_double _ _ (by omega), h2 j]; rfl
theorem fit_sz (ss : List ByteArray) (h : fitN ss = 0) (h0 : 0 < ss.length) : ∃ n, n ≤ 65536 ∧ AllSz n ss := by
  obtain ⟨s0, hs0⟩ : ∃ s0, ss[0]? = some s0 := ⟨_, List.getElem?_eq_getElem h0⟩
  obtain ⟨h1, h2⟩ := fit_all ss s0 h hs0
  exact ⟨s0.size, h1, h2⟩
theorem sz_fit (ss : List ByteArray) (n : Nat) (hn : n ≤ 65536) (h : AllSz n ss) : fitN ss = 0 := by
  unfold fitN
  rw [big_false (fun i s hs => by rw [h s (List.mem_of_getElem? hs)]; exact hn), uneven_false (fun i s t hs ht => by rw [h s (List.mem_of_getElem? hs), h t (List.mem_of_getElem? ht)])]; rfl
theorem addAll_at (n : Nat) (hn : n ≤ 65536) (ss : List ByteArray) (h : AllSz n ss) (h0 : 0 < ss.length) : (addAll ss).size = n ∧ ∀ j, bat (addAll ss) j = xsum (ss.map (bat · j)) := by
  have key : ∀ (l : List ByteArray) (q : ByteArray), q.size = n → AllSz n l → (l.foldl bAdd q).size = n ∧ ∀ j, bat (l.foldl bAdd q) j = bat q j ^^^ xsum (l.map (bat · j)) := by
    intro l
    induction l with
    | nil => exact fun q hq _ => ⟨hq, fun j => (Nat.xor_zero _).symm⟩
    | cons s r ih =>
      intro q hq hs
      have h1 := hs s (by simp)
      obtain ⟨h2, h3⟩ := ih (bAdd q s) (by rw [bAdd_size _ _ (by omega)]; exact hq) (fun x hx => hs x (by simp [hx]))
      refine ⟨h2, fun j => ?_⟩
      show bat (r.foldl bAdd (bAdd q s)) j = _
      rw [h3 j, bat_add _ _ (by omega), Nat.xor_assoc]; rfl
  cases ss with
  | nil => simp at h0
  | cons s r =>
    have := key r s (h s (by simp)) (fun x hx => h x (by simp [hx]))
    exact ⟨this.1, fun j => this.2 j⟩

theorem mul_eq (a b : Nat) (ha : a < 256) (hb : b < 256) : trunnionref01_Mul.f a b = some ((gmul a b : Nat) : Int) := by
  unfold trunnionref01_Mul.f
  rw [if_pos (by omega), Int.toNat_natCast, Int.toNat_natCast]
theorem power_l0 (n : Nat) (hn : n < 30) : ∀ (d i k : Nat), i + d = n → trunnionref04_Power.l0 (k + d + 1) n ((pw i : Nat) : Int) i = some ((pw n : Nat) : Int) := by
  intro d
  induction d with
  | zero =>
    intro i k hi
    have : i = n := by omega
    subst this
    rw [trunnionref04_Power.l0, if_neg (by omega)]
  | succ d ih =>
    intro i k hi
    rw [trunnionref04_Power.l0, if_pos (by omega)]
    have h2 : trunnionref01_Mul.f ((pw i : Nat) : Int) 2 = some ((pw (i + 1) : Nat) : Int) := by
      have := mul_eq (pw i) 2 (pw_lt i) (by decide)
      rw [pw_succ] at this
      exact this
    rw [h2, Option.bind_some, wrap_next i (by omega), show k + (d + 1) = k + d + 1 by omega]
    exact ih (i + 1) k (by omega)
theorem power_eq (i : Int) (k : Nat) (hk : 40 ≤ k) : trunnionref04_Power.f k i = some ((powN i : Nat) : Int) := by
  obtain ⟨k, rfl⟩ : ∃ m, k = m + 32 := ⟨k - 32, by omega⟩
  unfold trunnionref04_Power.f powN
  by_cases h1 : i < 0
  · rw [if_pos h1, if_neg (by omega), trunnionref04_Power.j0, if_pos rfl]; rfl
  · rw [if_neg h1]
    by_cases h2 : i ≥ 30
    · rw [if_neg (by omega), trunnionref04_Power.j0, if_pos (by simpa using h2)]; rfl
    · rw [if_pos (by omega), trunnionref04_Power.j0, if_neg (by simpa using h2)]
      obtain ⟨n, rfl⟩ : ∃ n : Nat, i = n := ⟨i.toNat, by omega⟩
      have h3 := power_l0 n (by omega) n 0 (k + 30 - n) (by omega)
      rw [show k + 30 - n + n + 1 = k + 31 by omega] at h3
      rw [Int.toNat_natCast]
      exact h3

theorem fold_ok (n : Nat) (hn : n ≤ 65536) (a : ByteArray) (c : Nat) (hc : c < 256) (s : ByteArray) (ha : a.size = n) (hs : s.size = n) (k : Nat) (hk : 65600 ≤ k) : trunnionref03_Fold.f k a c s = some (bFold a c s, 0) := by
  rw [fold_eq a c hc s k hk, fit_pair a s (by omega) (by omega), Bulk.orNone, if_pos rfl]
theorem make_l0 (n : Nat) (hn : n ≤ 65536) (ss : List ByteArray) (hl : ss.length ≤ 30) (h : AllSz n ss) :
    ∀ (d i k : Nat) (p q : ByteArray), i + d = ss.length → 65600 ≤ k → p.size = n → q.size = n →
      (∀ j, bat p j ^^^ xsum ((ss.drop i).map (bat · j)) = xsum (ss.map (bat · j))) → (∀ j, bat q j ^^^ wsum i ((ss.drop i).map (bat · j)) = wsum 0 (ss.map (bat · j))) →
      ∃ p' q', trunnionref04_Make.l0 (k + d + 1) ss p q i = some (p', q', 0) ∧ p'.size = n ∧ q'.size = n ∧ (∀ j, bat p' j = xsum (ss.map (bat · j))) ∧ (∀ j, bat q' j = wsum 0 (ss.map (bat · j))) := by
  intro d
  induction d with
  | zero =>
    intro i k p q hi hk hp hq h1 h2
    have hd : ss.drop i = [] := List.drop_eq_nil_of_le (by omega)
    refine ⟨p, q, by rw [trunnionref04_Make.l0, if_neg (by omega)], hp, hq, fun j => ?_, fun j => ?_⟩
    · have := h1 j; rw [hd] at this; rw [← this]; exact (Nat.xor_zero _).symm
    · have := h2 j; rw [hd] at this; rw [← this]; exact (Nat.xor_zero _).symm
  | succ d ih =>
    intro i k p q hi hk hp hq h1 h2
    obtain ⟨s, hs⟩ : ∃ s, ss[i]? = some s := ⟨_, List.getElem?_eq_getElem (by omega)⟩
    have hsz := h s (List.mem_of_getElem? hs)
    have hd : ss.drop i = s :: ss.drop (i + 1) := by
      have hi2 : i < ss.length := by omega
      have e : ss[i] = s := by rw [List.getElem?_eq_getElem hi2] at hs; exact Option.some.inj hs
      rw [List.drop_eq_getElem_cons hi2, e]
    have hpw : powN (i : Int) = pw i := by unfold powN; rw [if_pos (by omega), Int.toNat_natCast]
    rw [show k + (d + 1) + 1 = (k + 1) + d + 1 by omega, trunnionref04_Make.l0, if_pos (by omega), power_eq _ _ (by omega), Option.bind_some, if_pos (by omega), rd_at ss i s hs, hpw,
      show ((1 : Int)) = ((1 : Nat) : Int) from rfl, fold_ok n hn p 1 (by decide) s hp hsz _ (by omega), Option.bind_some, fold_ok n hn q (pw i) (pw_lt i) s hq hsz _ (by omega), Option.bind_some, show ((i : Int) + ((1 : Nat) : Int)) = (i : Int) + 1 from rfl, wrap_next i (by omega),
      show k + 1 + d = k + d + 1 by omega]
    refine ih (i + 1) k _ _ (by omega) hk (by rw [fold_size _ _ _ (by omega)]; exact hp) (by rw [fold_size _ _ _ (by omega)]; exact hq) (fun j => ?_) (fun j => ?_)
    · show bat (bFold p 1 s) j ^^^ _ = _
      rw [← h1 j, hd, bat_fold _ _ _ (by omega), gmul_one _ (bat_lt s j), Nat.xor_assoc]; rfl
    · show bat (bFold q (pw i) s) j ^^^ _ = _
      rw [← h2 j, hd, bat_fold _ _ _ (by omega), Nat.xor_assoc]; rfl
theorem make_eq (ss : List ByteArray) (hn : ss.length < 1000) (k : Nat) (hk : 70000 ≤ k) : trunnionref04_Make.f k ss = some (makeP ss, makeQ ss, makeE ss) := by
  obtain ⟨k, rfl⟩ : ∃ m, k = m + 1 := ⟨k - 1, by omega⟩
  by_cases hr : ss.length < 2 ∨ 30 < ss.length
  · have e1 : makeE ss = 3 := by unfold makeE; rw [if_pos hr]
    have e2 : makeP ss = ⟨#[]⟩ := by unfold makeP; rw [e1, none_not (by decide)]
    have e3 : makeQ ss = ⟨#[]⟩ := by unfold makeQ; rw [e1, none_not (by decide)]
    rw [e1, e2, e3]
    unfold trunnionref04_Make.f
    by_cases h2 : (ss.length : Int) < 2
    · rw [if_pos h2, trunnionref04_Make.j0, if_pos rfl]
    · rw [if_neg h2, trunnionref04_Make.j0, if_pos (decide_eq_true (by omega))]
  · have e1 : makeE ss = fitN ss := by unfold makeE; rw [if_neg hr]
    unfold trunnionref04_Make.f
    rw [if_neg (by omega), trunnionref04_Make.j0, if_neg (by simp; omega), fit_eq ss (by omega) k (by omega), Option.bind_some]
    by_cases hf : fitN ss = 0
    · obtain ⟨n, hn6, hall⟩ := fit_sz ss hf (by omega)
      obtain ⟨s0, hs0⟩ : ∃ s0, ss[0]? = some s0 := ⟨_, List.getElem?_eq_getElem (by omega)⟩
      have hs0n := hall s0 (List.mem_of_getElem? hs0)
      obtain ⟨a1, a2⟩ := addAll_at n hn6 ss hall (by omega)
      obtain ⟨b1, b2⟩ := dfold_at n hn6 ss hall
      have hq : qOf ss = ss.reverse.foldl dstep (noughts n) := by unfold qOf; rw [a1]
      rw [if_pos hf, if_pos (by omega), show (0 : Int) = ((0 : Nat) : Int) from rfl, rd_at ss 0 s0 hs0, if_pos (by omega), if_pos (by rw [Int.toNat_natCast]; omega), Option.bind_some, Int.toNat_natCast, hs0n]
      have hz : strOfNums (List.replicate n (((0 : Nat) : Int))) = noughts n := by
        have : List.replicate n (((0 : Nat) : Int)) = ints (List.replicate n 0) := by unfold ints; rw [List.map_replicate]
        rw [this, str_ints]; rfl
      rw [hz]
      obtain ⟨p', q', h1, h2, h3, h4, h5⟩ := make_l0 n hn6 ss (by omega) hall ss.length 0 (k - ss.length - 1) (noughts n) (noughts n) (by omega) (by omega) (noughts_size n) (noughts_size n) (fun j => by rw [noughts_bat, Nat.zero_xor]; rfl) (fun j => by rw [noughts_bat, Nat.zero_xor]; rfl)
      rw [show k - ss.length - 1 + ss.length + 1 = k by omega] at h1
      have hp' : p' = addAll ss := buf_ext (by omega) (fun j _ => by rw [h4 j, a2 j])
      have hq' : q' = qOf ss := by rw [hq]; exact buf_ext (by omega) (fun j _ => by rw [h5 j, b2 j, wsum_zero _ (bats_lt ss j)])
      have r1 : makeE ss = 0 := by rw [e1, hf]
      have r2 : makeP ss = addAll ss := by unfold makeP; rw [r1, none_zero]
      have r3 : makeQ ss = qOf ss := by unfold makeQ; rw [r1, none_zero]
      rw [r1, r2, r3, ← hp', ← hq']
      exact h1
    · rw [if_neg hf]
      have e2 : makeP ss = ⟨#[]⟩ := by unfold makeP; rw [e1, none_not hf]
      have e3 : makeQ ss = ⟨#[]⟩ := by unfold makeQ; rw [e1, none_not hf]
      rw [e1, e2, e3]
end Go.Proofs.Ytgojbngdncligaa.Syn
