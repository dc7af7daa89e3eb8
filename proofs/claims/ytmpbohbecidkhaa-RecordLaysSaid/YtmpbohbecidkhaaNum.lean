/- Numbers as bytes, the highest first; a text with one byte another one has another sum. No program is named here. -/
import Derived.Test.YtmpbohbecidkhaaCrcAlg
namespace Go.Proofs.Ytmpbohbecidkhaa.Num
open Go.Proofs.Ytmpbohbecidkhaa.CrcA
set_option linter.unusedVariables false
set_option linter.unusedSimpArgs false

theorem rev_ind {α : Type} {P : List α → Prop} (h0 : P []) (h1 : ∀ l a, P l → P (l ++ [a])) (l : List α) : P l := by
  have key : ∀ m : List α, P m.reverse := fun m => by
    induction m with
    | nil => exact h0
    | cons a m ih => rw [List.reverse_cons]; exact h1 _ _ ih
  have := key l.reverse
  rwa [List.reverse_reverse] at this
theorem xor_zero_eq {x y : Nat} (h : x ^^^ y = 0) : x = y := by
  have := xor_cancel x y
  rw [h, Nat.zero_xor] at this
  exact this.symm
/-- A number in k bytes. -/
def big (k n : Nat) : List Nat := (List.range k).map fun i => n / 256 ^ (k - 1 - i) % 256
def num (l : List Nat) : Nat := l.foldl (fun a b => 256 * a + b) 0
theorem big_length (k n : Nat) : (big k n).length = k := by simp [big]
theorem big_lt (k n : Nat) : ∀ b ∈ big k n, b < 256 := fun b hb => by
  obtain ⟨i, _, rfl⟩ := List.mem_map.1 hb
  exact Nat.mod_lt _ (by decide)
theorem big_at (k n i : Nat) (hi : i < k) : (big k n)[i]? = some (n / 256 ^ (k - 1 - i) % 256) := by
  unfold big; rw [List.getElem?_map, List.getElem?_range hi]; rfl
theorem num_nil : num [] = 0 := rfl
theorem num_snoc (l : List Nat) (b : Nat) : num (l ++ [b]) = 256 * num l + b := by unfold num; rw [List.foldl_append]; rfl
theorem num_take {l : List Nat} {k b : Nat} (h : l[k]? = some b) : num (l.take (k + 1)) = 256 * num (l.take k) + b := by rw [List.take_add_one, h]; exact num_snoc _ _
theorem num_lt (l : List Nat) : (∀ b ∈ l, b < 256) → num l < 256 ^ l.length := by
  refine rev_ind (P := fun l => (∀ b ∈ l, b < 256) → num l < 256 ^ l.length) (fun _ => by simp [num]) (fun l b ih hl => ?_) l
  rw [num_snoc, List.length_append, List.length_singleton, Nat.pow_succ]
  have h1 := ih (fun x hx => hl x (List.mem_append_left _ hx))
  have h2 := hl b (by simp)
  omega
theorem big_succ (k n : Nat) : big (k + 1) n = big k (n / 256) ++ [n % 256] := by
  apply List.ext_getElem?
  intro i
  by_cases hi : i < k
  · rw [List.getElem?_append_left (by rw [big_length]; exact hi), big_at _ _ _ (by omega), big_at _ _ _ hi, Nat.div_div_eq_div_mul, ← Nat.pow_succ']
    congr 4; omega
  · by_cases h2 : i = k
    · subst h2
      rw [List.getElem?_append_right (by rw [big_length]; exact Nat.le_refl _), big_length, Nat.sub_self, big_at _ _ _ (by omega)]
      simp
    · rw [List.getElem?_eq_none (by rw [big_length]; omega), List.getElem?_eq_none (by rw [List.length_append, big_length]; simp; omega)]
theorem num_big : ∀ (k n : Nat), num (big k n) = n % 256 ^ k
  | 0, n => by simp [big, num, Nat.mod_one]
  | k + 1, n => by
    rw [big_succ, num_snoc, num_big k (n / 256), Nat.pow_succ', Nat.mod_mul]
    omega
theorem big_num (l : List Nat) : (∀ b ∈ l, b < 256) → big l.length (num l) = l := by
  refine rev_ind (P := fun l => (∀ b ∈ l, b < 256) → big l.length (num l) = l) (fun _ => rfl) (fun l b ih hl => ?_) l
  have hb := hl b (by simp)
  rw [num_snoc, List.length_append, List.length_singleton, big_succ]
  rw [show (256 * num l + b) / 256 = num l by omega, show (256 * num l + b) % 256 = b by omega, ih (fun x hx => hl x (List.mem_append_left _ hx))]
/-! One byte another one. -/
theorem reg_inj (l : List Nat) (hl : ∀ b ∈ l, b < 256) (x y : Nat) (hx : x < 4294967296) (hy : y < 4294967296) (h : reg x l = reg y l) : x = y := by
  have h1 := reg_xor l x (x ^^^ y)
  rw [← Nat.xor_assoc, Nat.xor_self, Nat.zero_xor, ← h] at h1
  have h2 : stpN (8 * l.length) (x ^^^ y) = 0 := by
    have := congrArg (reg x l ^^^ ·) h1
    simp only [← Nat.xor_assoc, Nat.xor_self, Nat.zero_xor] at this
    exact this.symm
  have h3 := stpN_eq_zero _ _ (Nat.xor_lt_two_pow (n := 32) hx hy) h2
  exact xor_zero_eq h3
theorem byt_inj (r a b : Nat) (hr : r < 4294967296) (ha : a < 256) (hb : b < 256) (h : byt r a = byt r b) : a = b := by
  unfold byt at h
  have h1 := stpN_xor 8 (r ^^^ a) (r ^^^ b)
  rw [h, Nat.xor_self] at h1
  have h2 := stpN_eq_zero 8 _ (Nat.xor_lt_two_pow (n := 32) (Nat.xor_lt_two_pow (n := 32) hr (by omega)) (Nat.xor_lt_two_pow (n := 32) hr (by omega))) h1
  have h3 := xor_zero_eq h2
  have h4 := congrArg (r ^^^ ·) h3
  simp only [← Nat.xor_assoc, Nat.xor_self, Nat.zero_xor] at h4
  exact h4
theorem sum_set_ne (l : List Nat) (hl : ∀ b ∈ l, b < 256) (j v u : Nat) (hj : l[j]? = some v) (hu : u < 256) (hne : u ≠ v) : sum (l.set j u) ≠ sum l := by
  have hlt := (List.getElem?_eq_some_iff.1 hj).1
  have e : ∀ x, l.set j x = l.take j ++ x :: l.drop (j + 1) := fun x => List.set_eq_take_append_cons_drop.trans (by rw [if_pos hlt])
  have e2 : l = l.take j ++ v :: l.drop (j + 1) := by
    have := e v
    rw [← this]
    obtain ⟨h1, h2⟩ := List.getElem?_eq_some_iff.1 hj
    rw [← h2, List.set_getElem_self]
  intro h
  unfold sum at h
  have h1 : reg full (l.set j u) = reg full l := by
    have := congrArg (· ^^^ full) h
    simp only [xor_cancel] at this
    exact this
  rw [e u] at h1
  conv at h1 => rhs; rw [e2]
  rw [reg_append, reg_append] at h1
  have hr : reg full (l.take j) < 4294967296 := reg_lt _ _ (by decide) (fun b hb => hl b (List.mem_of_mem_take hb))
  have hv := hl v (List.mem_of_getElem? hj)
  have h2 : reg (byt (reg full (l.take j)) u) (l.drop (j + 1)) = reg (byt (reg full (l.take j)) v) (l.drop (j + 1)) := h1
  have h3 := reg_inj _ (fun b hb => hl b (List.mem_of_mem_drop hb)) _ _ (byt_lt _ _ hr hu) (byt_lt _ _ hr hv) h2
  exact hne (byt_inj _ _ _ hr hu hv h3)
end Go.Proofs.Ytmpbohbecidkhaa.Num
