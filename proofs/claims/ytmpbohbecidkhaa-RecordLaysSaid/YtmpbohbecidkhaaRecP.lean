/- Batches and marks by numbers and lists alone. No program is named here. -/
import Derived.Test.YtmpbohbecidkhaaLabP
namespace Go.Proofs.Ytmpbohbecidkhaa.Rec
open Go.Proofs.Ytmpbohbecidkhaa.CrcA Go.Proofs.Ytmpbohbecidkhaa.Num
open Go.Proofs.Ytmpbohbecidkhaa.Lab (zeros zeros_length zeros_lt num_inj)
set_option linter.unusedVariables false
set_option linter.unusedSimpArgs false

/-! Marks. -/
structure Mk where
  seq : Int
  n : Int
def Mk.zero : Mk := ⟨0, 0⟩
def Mk.good (m : Mk) : Bool := decide (1 ≤ m.seq ∧ m.seq ≤ 9007199254740992 ∧ 1 ≤ m.n ∧ m.n ≤ 48)
theorem Mk.good_iff (m : Mk) : m.good = true ↔ 1 ≤ m.seq ∧ m.seq ≤ 9007199254740992 ∧ 1 ≤ m.n ∧ m.n ≤ 48 := by unfold Mk.good; simp
def magic : List Nat := [77, 65, 82, 75]
def Mk.head (m : Mk) : List Nat := magic ++ big 8 m.seq.toNat ++ big 4 m.n.toNat
def Mk.sec (m : Mk) : List Nat := m.head ++ big 4 (sum m.head) ++ zeros 44
def Mk.put (m : Mk) : List Nat := if m.good then m.sec else []
def Mk.putE (m : Mk) : Int := if m.good then 0 else 4
theorem Mk.head_length (m : Mk) : m.head.length = 16 := by simp [Mk.head, big_length, magic]
theorem Mk.sec_length (m : Mk) : m.sec.length = 64 := by unfold Mk.sec; rw [List.length_append, List.length_append, zeros_length, big_length, Mk.head_length]
theorem Mk.head_lt (m : Mk) : ∀ b ∈ m.head, b < 256 := fun b hb => by
  unfold Mk.head magic at hb
  simp only [List.mem_append] at hb
  rcases hb with (hb | hb) | hb
  · simp at hb; omega
  · exact big_lt _ _ b hb
  · exact big_lt _ _ b hb
theorem Mk.sec_lt (m : Mk) : ∀ b ∈ m.sec, b < 256 := fun b hb => by
  unfold Mk.sec at hb
  simp only [List.mem_append] at hb
  rcases hb with (hb | hb) | hb
  · exact m.head_lt b hb
  · exact big_lt _ _ b hb
  · exact zeros_lt _ b hb
def dec (s : List Nat) : Mk := ⟨IntKind.i64.wrap ((num ((s.drop 4).take 8) : Nat) : Int), ((num ((s.drop 12).take 4) : Nat) : Int)⟩
def isMark (s : List Nat) : Bool := (dec s).good && decide ((dec s).sec = s)
def getE (s : List Nat) : Int := if s.length ≠ 64 ∨ s.take 4 ≠ magic then 4 else if num ((s.drop 16).take 4) ≠ sum (s.take 16) then 6 else if isMark s then 0 else 4
def get (s : List Nat) : Mk := if getE s = 0 then dec s else Mk.zero
theorem getE_zero {s : List Nat} (h : getE s = 0) : s.length = 64 ∧ s.take 4 = magic ∧ num ((s.drop 16).take 4) = sum (s.take 16) ∧ (dec s).good = true ∧ (dec s).sec = s := by
  unfold getE at h
  split at h
  · cases h
  · rename_i h1
    split at h
    · cases h
    · rename_i h2
      split at h
      · rename_i h3
        unfold isMark at h3
        rw [Bool.and_eq_true, decide_eq_true_eq] at h3
        exact ⟨by simpa using fun e => h1 (.inl e), by simpa using fun e => h1 (.inr e), by simpa using h2, h3.1, h3.2⟩
      · cases h
theorem Mk.parts (m : Mk) : m.sec = magic ++ (big 8 m.seq.toNat ++ (big 4 m.n.toNat ++ (big 4 (sum m.head) ++ zeros 44))) := by
  unfold Mk.sec Mk.head; simp [List.append_assoc]
theorem Mk.dec {m : Mk} (h : m.good = true) : Rec.dec m.sec = m := by
  obtain ⟨h1, h2, h3, h4⟩ := m.good_iff.1 h
  have hp := m.parts
  have e4 : (m.sec.drop 4).take 8 = big 8 m.seq.toNat := by
    rw [hp, List.drop_left' (by simp [magic]), List.take_left' (big_length _ _)]
  have e12 : (m.sec.drop 12).take 4 = big 4 m.n.toNat := by
    rw [hp, show magic ++ (big 8 m.seq.toNat ++ (big 4 m.n.toNat ++ (big 4 (sum m.head) ++ zeros 44))) = (magic ++ big 8 m.seq.toNat) ++ (big 4 m.n.toNat ++ (big 4 (sum m.head) ++ zeros 44)) by simp [List.append_assoc], List.drop_left' (by simp [magic, big_length]), List.take_left' (big_length _ _)]
  unfold Rec.dec
  rw [e4, e12, num_big, num_big, Nat.mod_eq_of_lt (by omega), Nat.mod_eq_of_lt (by omega)]
  obtain ⟨q, n⟩ := m
  dsimp only at h1 h2 h3 h4 ⊢
  rw [Int.toNat_of_nonneg (by omega), Int.toNat_of_nonneg (by omega), IntWalk.i64_in _ (by omega)]
theorem sum_small (m : Mk) : sum m.head < 256 ^ 4 := sum_lt _ m.head_lt
theorem Mk.take4 (m : Mk) : m.sec.take 4 = magic := by rw [m.parts]; exact List.take_left' (by simp [magic])
theorem Mk.take16 (m : Mk) : m.sec.take 16 = m.head := by unfold Mk.sec; rw [List.append_assoc]; exact List.take_left' m.head_length
theorem Mk.drop16 (m : Mk) : (m.sec.drop 16).take 4 = big 4 (sum m.head) := by unfold Mk.sec; rw [List.append_assoc, List.drop_left' m.head_length, List.take_left' (big_length _ _)]
theorem get_sec {m : Mk} (h : m.good = true) : getE m.sec = 0 ∧ get m.sec = m := by
  have hE : getE m.sec = 0 := by
    unfold getE
    rw [if_neg (by rw [m.sec_length, m.take4]; simp), if_neg (by rw [m.drop16, m.take16, num_big, Nat.mod_eq_of_lt (sum_small m)]; simp), if_pos]
    unfold isMark
    rw [Mk.dec h, h]
    simp
  exact ⟨hE, by unfold get; rw [if_pos hE, Mk.dec h]⟩
theorem dec_same {s t : List Nat} (h : s.take 16 = t.take 16) : dec s = dec t := by
  have e : ∀ i, i < 16 → s[i]? = t[i]? := fun i hi => by
    have := congrArg (fun x : List Nat => x[i]?) h
    simpa [List.getElem?_take, hi] using this
  have e2 : ∀ a b, a + b ≤ 16 → (s.drop a).take b = (t.drop a).take b := fun a b hab => by
    apply List.ext_getElem?
    intro i
    rw [List.getElem?_take, List.getElem?_take]
    by_cases hi : i < b
    · rw [if_pos hi, if_pos hi, List.getElem?_drop, List.getElem?_drop, e _ (by omega)]
    · rw [if_neg hi, if_neg hi]
  unfold dec
  rw [e2 4 8 (by omega), e2 12 4 (by omega)]
/-- With one byte another one it is none. -/
theorem get_spoilt {m : Mk} (h : m.good = true) (j v u : Nat) (hj : m.sec[j]? = some v) (hu : u < 256) (hne : u ≠ v) : getE (m.sec.set j u) ≠ 0 := by
  have hlen := m.sec_length
  have hj64 : j < 64 := by have := (List.getElem?_eq_some_iff.1 hj).1; omega
  have hself : ∀ (k : Nat), k = j → (m.sec.set j u)[k]? = some u := fun k hk => by subst hk; rw [List.getElem?_set_self (by omega)]
  intro hz
  obtain ⟨_, h4, h46, hg, hs⟩ := getE_zero hz
  by_cases c1 : j < 16
  · by_cases c0 : j < 4
    · have e := congrArg (fun x : List Nat => x[j]?) (h4.trans m.take4.symm)
      simp only [List.getElem?_take, if_pos c0] at e
      rw [hself j rfl, hj] at e
      exact hne (Option.some.inj e)
    · have e1 : (m.sec.set j u).take 16 = m.head.set j u := by rw [List.take_set, m.take16]
      have e2 : ((m.sec.set j u).drop 16).take 4 = (m.sec.drop 16).take 4 := by
        apply List.ext_getElem?
        intro i
        rw [List.getElem?_take, List.getElem?_take]
        split
        · rw [List.getElem?_drop, List.getElem?_drop, List.getElem?_set_ne (by omega)]
        · rfl
      rw [e1, e2, m.drop16, num_big, Nat.mod_eq_of_lt (sum_small m)] at h46
      have hb : m.head[j]? = some v := by rw [← m.take16, List.getElem?_take, if_pos c1]; exact hj
      exact sum_set_ne m.head m.head_lt j v u hb hu hne h46.symm
  · have e1 : (m.sec.set j u).take 16 = m.sec.take 16 := by
      apply List.ext_getElem?
      intro i
      rw [List.getElem?_take, List.getElem?_take]
      split
      · rw [List.getElem?_set_ne (by omega)]
      · rfl
    by_cases c2 : j < 20
    · rw [e1, ← (show num ((m.sec.drop 16).take 4) = sum (m.sec.take 16) by rw [m.drop16, m.take16, num_big, Nat.mod_eq_of_lt (sum_small m)])] at h46
      have e3 : ((m.sec.set j u).drop 16).take 4 = (m.sec.drop 16).take 4 := num_inj (by simp) (fun x hx => by
        have hx := List.mem_of_mem_drop (List.mem_of_mem_take hx)
        rcases List.mem_or_eq_of_mem_set hx with e | e
        · exact m.sec_lt x e
        · omega) (fun x hx => m.sec_lt x (List.mem_of_mem_drop (List.mem_of_mem_take hx))) h46
      have e := congrArg (fun x : List Nat => x[j - 16]?) e3
      simp only [List.getElem?_take, if_pos (show j - 16 < 4 by omega), List.getElem?_drop] at e
      rw [hself (16 + (j - 16)) (by omega), show 16 + (j - 16) = j by omega, hj] at e
      exact hne (Option.some.inj e)
    · rw [dec_same e1, Mk.dec h] at hs
      have e : m.sec[j]? = (m.sec.set j u)[j]? := congrArg (fun x : List Nat => x[j]?) hs
      rw [hself j rfl, hj] at e
      exact hne (Option.some.inj e).symm
end Go.Proofs.Ytmpbohbecidkhaa.Rec
