/- Sums of 32 bits by numbers alone: the register is linear; a step is undone by no other; joining, and bursts. -/
import Derived.Below
import Derived.IntWalk
import Derived.Laws.BitsLemmas
import Derived.Test.YtbbhcmfkkkjehaaGreatMem
import Derived.WalkKit
import Derived.KernelRfl
import Derived.Deep.LoopGhost
import Derived.Deep.QuietTactic
import Derived.BigQuiet
import Derived.Test.YtbbhcmfkkkjehaaGreatProg
import Derived.Test.YtbbhcmfkkkjehaaGreatWWords
import Derived.RegionTactic
import Derived.Laws.IdiomStrings
import Derived.Laws.MakeOwn
namespace Go.Proofs.YtbbhcmfkkkjehaaGreat.CrcA
set_option linter.unusedVariables false

def poly : Nat := 0xedb88320
def full : Nat := 0xffffffff
/-- The register behind a bit. -/
def stp (r : Nat) : Nat := (r / 2) ^^^ (if r.testBit 0 then poly else 0)
def stpN : Nat → Nat → Nat
  | 0, r => r
  | n + 1, r => stpN n (stp r)
/-- Behind a byte. -/
def byt (r b : Nat) : Nat := stpN 8 (r ^^^ b)
def reg (r : Nat) (l : List Nat) : Nat := l.foldl byt r
def sum (l : List Nat) : Nat := reg full l ^^^ full

theorem half_xor (a b : Nat) : (a ^^^ b) / 2 = a / 2 ^^^ b / 2 := by
  have := Nat.shiftRight_xor_distrib (a := a) (b := b) (i := 1)
  simpa [Nat.shiftRight_eq_div_pow] using this
theorem stp_xor (a b : Nat) : stp (a ^^^ b) = stp a ^^^ stp b := by
  unfold stp
  rw [half_xor, Nat.testBit_xor]
  cases a.testBit 0 <;> cases b.testBit 0 <;> simp
  · ac_rfl
  · ac_rfl
  · rw [show a / 2 ^^^ poly ^^^ (b / 2 ^^^ poly) = (a / 2 ^^^ b / 2) ^^^ (poly ^^^ poly) by ac_rfl]; simp
theorem stpN_xor (n : Nat) : ∀ a b, stpN n (a ^^^ b) = stpN n a ^^^ stpN n b := by
  induction n with
  | zero => intro a b; rfl
  | succ n ih => intro a b; simp only [stpN, stp_xor, ih]
theorem stpN_add (m n r : Nat) : stpN (m + n) r = stpN n (stpN m r) := by
  induction m generalizing r with
  | zero => simp [stpN]
  | succ m ih => rw [show m + 1 + n = (m + n) + 1 by omega]; simp only [stpN]; exact ih _
theorem stpN_zero (n : Nat) : stpN n 0 = 0 := by have := stpN_xor n 0 0; simpa using this
theorem stp_lt (r : Nat) (h : r < 4294967296) : stp r < 4294967296 := by
  unfold stp
  refine Nat.xor_lt_two_pow (n := 32) (by omega) ?_
  split
  · decide
  · decide
theorem stpN_lt (n : Nat) : ∀ r, r < 4294967296 → stpN n r < 4294967296 := by
  induction n with
  | zero => intro r h; exact h
  | succ n ih => intro r h; exact ih _ (stp_lt r h)
theorem stp_even (x : Nat) : stp (2 * x) = x := by
  unfold stp
  have : (2 * x).testBit 0 = false := by simp [Nat.testBit_zero]
  rw [this]; simp
theorem stpN_shift (n : Nat) : ∀ x, stpN n (2 ^ n * x) = x := by
  induction n with
  | zero => intro x; simp [stpN]
  | succ n ih => intro x; rw [Nat.pow_succ, show 2 ^ n * 2 * x = 2 * (2 ^ n * x) by rw [Nat.mul_comm (2 ^ n) 2, Nat.mul_assoc], stpN, stp_even, ih]
/-- A step is undone by no other. -/
theorem stp_zero (r : Nat) (h : r < 4294967296) (h0 : stp r = 0) : r = 0 := by
  unfold stp at h0
  by_cases hb : r.testBit 0
  · exfalso
    rw [if_pos hb] at h0
    have h1 : r / 2 = poly := by
      have := congrArg (· ^^^ poly) h0
      simpa [Nat.xor_assoc] using this
    unfold poly at h1
    omega
  · rw [if_neg hb] at h0
    simp only [Nat.xor_zero] at h0
    have : r % 2 = 0 := by
      rw [Nat.testBit_zero] at hb
      simp at hb; omega
    omega
theorem stpN_eq_zero (n : Nat) : ∀ r, r < 4294967296 → stpN n r = 0 → r = 0 := by
  induction n with
  | zero => intro r _ h; exact h
  | succ n ih => intro r h h0; exact stp_zero r h (ih _ (stp_lt r h) h0)

theorem byt_lt (r b : Nat) (hr : r < 4294967296) (hb : b < 256) : byt r b < 4294967296 := stpN_lt 8 _ (Nat.xor_lt_two_pow (n := 32) hr (by omega))
theorem reg_lt (l : List Nat) : ∀ r, r < 4294967296 → (∀ b ∈ l, b < 256) → reg r l < 4294967296 := by
  induction l with
  | nil => intro r h _; exact h
  | cons b l ih => intro r h hb; exact ih _ (byt_lt r b h (hb b (by simp))) (fun x hx => hb x (by simp [hx]))
theorem sum_lt (l : List Nat) (hb : ∀ b ∈ l, b < 256) : sum l < 4294967296 := Nat.xor_lt_two_pow (n := 32) (reg_lt l _ (by decide) hb) (by decide)
theorem reg_append (r : Nat) (l m : List Nat) : reg r (l ++ m) = reg (reg r l) m := by unfold reg; rw [List.foldl_append]
/-- What a register adds to what stands behind: through as many noughts. -/
theorem reg_xor (l : List Nat) : ∀ x y, reg (x ^^^ y) l = reg x l ^^^ stpN (8 * l.length) y := by
  induction l with
  | nil => intro x y; simp [reg, stpN]
  | cons b l ih =>
    intro x y
    show reg (byt (x ^^^ y) b) l = reg (byt x b) l ^^^ stpN (8 * (l.length + 1)) y
    have e : byt (x ^^^ y) b = byt x b ^^^ stpN 8 y := by
      unfold byt
      rw [show x ^^^ y ^^^ b = (x ^^^ b) ^^^ y by ac_rfl, stpN_xor]
    rw [e, ih, show 8 * (l.length + 1) = 8 + 8 * l.length by omega, stpN_add]
theorem xor_cancel (a b : Nat) : a ^^^ b ^^^ b = a := by rw [Nat.xor_assoc, Nat.xor_self, Nat.xor_zero]
/-- Going on. -/
theorem sum_more (l m : List Nat) : reg (sum l ^^^ full) m ^^^ full = sum (l ++ m) := by
  unfold sum
  rw [xor_cancel, reg_append]
/-- Joining. -/
theorem sum_join (l m : List Nat) : stpN (8 * m.length) (sum l) ^^^ sum m = sum (l ++ m) := by
  have h := reg_xor m full (sum l)
  have e : full ^^^ sum l = reg full l := by unfold sum; rw [Nat.xor_comm full, xor_cancel]
  rw [e] at h
  unfold sum at *
  rw [reg_append, h]
  ac_rfl

/-- The table's entry for a byte; what the rest of the register adds. -/
theorem byt_table (r b : Nat) (hr : r < 4294967296) (hb : b < 256) : byt r b = stpN 8 ((r % 256) ^^^ b) ^^^ r / 256 := by
  have e : r = (r % 256) ^^^ (256 * (r / 256)) := by
    have h := Nat.two_pow_add_eq_or_of_lt (i := 8) (Nat.mod_lt r (by decide : (2 : Nat) ^ 8 > 0)) (r / 256)
    have h2 : (2 ^ 8 * (r / 256)) ||| (r % 2 ^ 8) = (r % 256) ^^^ (256 * (r / 256)) := by
      apply Nat.eq_of_testBit_eq
      intro i
      rw [Nat.testBit_or, Nat.testBit_xor, Nat.testBit_two_pow_mul, show r % 256 = r % 2 ^ 8 from rfl, Nat.testBit_mod_two_pow]
      by_cases hi : i < 8
      · have : ¬ (i ≥ 8) := by omega
        simp [hi, this]
      · simp [hi]
    omega
  unfold byt
  conv => lhs; rw [e]
  rw [show (r % 256) ^^^ (256 * (r / 256)) ^^^ b = ((r % 256) ^^^ b) ^^^ (256 * (r / 256)) by ac_rfl, stpN_xor, show 256 * (r / 256) = 2 ^ 8 * (r / 256) from rfl, stpN_shift]

/-! Matrices: columns of what becomes of each bit. -/
def col (n : Nat) (i : Nat) : Nat := stpN n (2 ^ i)
/-- The columns of the bits of r, from place i on, n of them. -/
def times (m : Nat → Nat) (r : Nat) : Nat → Nat
  | 0 => 0
  | n + 1 => times m r n ^^^ (if r.testBit n then m n else 0)
theorem times_eq (k r : Nat) : ∀ n, times (col k) r n = stpN k (r % 2 ^ n) := by
  intro n
  induction n with
  | zero => simp [times, Nat.mod_one, stpN_zero]
  | succ n ih =>
    have e : r % 2 ^ (n + 1) = (r % 2 ^ n) ^^^ (if r.testBit n then 2 ^ n else 0) := by
      apply Nat.eq_of_testBit_eq
      intro i
      rw [Nat.testBit_xor, Nat.testBit_mod_two_pow, Nat.testBit_mod_two_pow]
      have e2 : (if r.testBit n then 2 ^ n else 0 : Nat).testBit i = (decide (n = i) && r.testBit i) := by
        by_cases h : n = i
        · subst h; cases hr : r.testBit n <;> simp
        · cases r.testBit n
          · simp [h]
          · simp only [if_true, Nat.testBit_two_pow]; simp [h]
      rw [e2]
      by_cases h1 : i = n
      · subst h1; simp
      · by_cases h2 : i < n
        · have : i < n + 1 := by omega
          simp [h2, this, Ne.symm h1]
        · have : ¬ i < n + 1 := by omega
          simp [h2, this, Ne.symm h1]
    rw [times, ih, e, stpN_xor]
    congr 1
    cases r.testBit n
    · simp [stpN_zero]
    · simp [col]
theorem times_full (k r : Nat) (h : r < 4294967296) : times (col k) r 32 = stpN k r := by rw [times_eq, Nat.mod_eq_of_lt h]
/-- A matrix twice. -/
theorem col_square (k i : Nat) (hi : i < 32) : times (col k) (col k i) 32 = col (2 * k) i := by
  have : col k i < 4294967296 := stpN_lt k _ (Nat.lt_of_lt_of_le (Nat.pow_lt_pow_right (by decide) hi) (by decide))
  rw [times_full k _ this]
  unfold col
  rw [← stpN_add]; congr 1; omega
end Go.Proofs.YtbbhcmfkkkjehaaGreat.CrcA
/- Numbers as bytes, the highest first; a text with one byte another one has another sum. No program is named here. -/
namespace Go.Proofs.YtbbhcmfkkkjehaaGreat.Num
open Go.Proofs.YtbbhcmfkkkjehaaGreat.CrcA
set_option linter.unusedVariables false
set_option linter.unusedSimpArgs false

theorem rev_ind {α : Type} {P : List α → Prop} (h0 : P []) (h1 : ∀ l a, P l → P (l ++ [a])) (l : List α) : P l := by
  have key : ∀ m : List α, P m.reverse := fun m => by
    induction m with
    | nil => exact h0
    | cons a m ih => rw [List.reverse_cons]; exact h1 _ _ ih
  have := key l.reverse
  rwa [List.reverse_reverse] at this
theorem xor_zero_eq {x y : Nat} (h : x ^^^ y = 0) : x = y := by
  have := xor_cancel x y
  rw [h, Nat.zero_xor] at this
  exact this.symm
/-- A number in k bytes. -/
def big (k n : Nat) : List Nat := (List.range k).map fun i => n / 256 ^ (k - 1 - i) % 256
def num (l : List Nat) : Nat := l.foldl (fun a b => 256 * a + b) 0
theorem big_length (k n : Nat) : (big k n).length = k := by simp [big]
theorem big_lt (k n : Nat) : ∀ b ∈ big k n, b < 256 := fun b hb => by
  obtain ⟨i, _, rfl⟩ := List.mem_map.1 hb
  exact Nat.mod_lt _ (by decide)
theorem big_at (k n i : Nat) (hi : i < k) : (big k n)[i]? = some (n / 256 ^ (k - 1 - i) % 256) := by
  unfold big; rw [List.getElem?_map, List.getElem?_range hi]; rfl
theorem num_nil : num [] = 0 := rfl
theorem num_snoc (l : List Nat) (b : Nat) : num (l ++ [b]) = 256 * num l + b := by unfold num; rw [List.foldl_append]; rfl
theorem num_take {l : List Nat} {k b : Nat} (h : l[k]? = some b) : num (l.take (k + 1)) = 256 * num (l.take k) + b := by rw [List.take_add_one, h]; exact num_snoc _ _
theorem num_lt (l : List Nat) : (∀ b ∈ l, b < 256) → num l < 256 ^ l.length := by
  refine rev_ind (P := fun l => (∀ b ∈ l, b < 256) → num l < 256 ^ l.length) (fun _ => by simp [num]) (fun l b ih hl => ?_) l
  rw [num_snoc, List.length_append, List.length_singleton, Nat.pow_succ]
  have h1 := ih (fun x hx => hl x (List.mem_append_left _ hx))
  have h2 := hl b (by simp)
  omega
theorem big_succ (k n : Nat) : big (k + 1) n = big k (n / 256) ++ [n % 256] := by
  apply List.ext_getElem?
  intro i
  by_cases hi : i < k
  · rw [List.getElem?_append_left (by rw [big_length]; exact hi), big_at _ _ _ (by omega), big_at _ _ _ hi, Nat.div_div_eq_div_mul, ← Nat.pow_succ']
    congr 4; omega
  · by_cases h2 : i = k
    · subst h2
      rw [List.getElem?_append_right (by rw [big_length]; exact Nat.le_refl _), big_length, Nat.sub_self, big_at _ _ _ (by omega)]
      simp
    · rw [List.getElem?_eq_none (by rw [big_length]; omega), List.getElem?_eq_none (by rw [List.length_append, big_length]; simp; omega)]
theorem num_big : ∀ (k n : Nat), num (big k n) = n % 256 ^ k
  | 0, n => by simp [big, num, Nat.mod_one]
  | k + 1, n => by
    rw [big_succ, num_snoc, num_big k (n / 256), Nat.pow_succ', Nat.mod_mul]
    omega
theorem big_num (l : List Nat) : (∀ b ∈ l, b < 256) → big l.length (num l) = l := by
  refine rev_ind (P := fun l => (∀ b ∈ l, b < 256) → big l.length (num l) = l) (fun _ => rfl) (fun l b ih hl => ?_) l
  have hb := hl b (by simp)
  rw [num_snoc, List.length_append, List.length_singleton, big_succ]
  rw [show (256 * num l + b) / 256 = num l by omega, show (256 * num l + b) % 256 = b by omega, ih (fun x hx => hl x (List.mem_append_left _ hx))]
/-! One byte another one. -/
theorem reg_inj (l : List Nat) (hl : ∀ b ∈ l, b < 256) (x y : Nat) (hx : x < 4294967296) (hy : y < 4294967296) (h : reg x l = reg y l) : x = y := by
  have h1 := reg_xor l x (x ^^^ y)
  rw [← Nat.xor_assoc, Nat.xor_self, Nat.zero_xor, ← h] at h1
  have h2 : stpN (8 * l.length) (x ^^^ y) = 0 := by
    have := congrArg (reg x l ^^^ ·) h1
    simp only [← Nat.xor_assoc, Nat.xor_self, Nat.zero_xor] at this
    exact this.symm
  have h3 := stpN_eq_zero _ _ (Nat.xor_lt_two_pow (n := 32) hx hy) h2
  exact xor_zero_eq h3
theorem byt_inj (r a b : Nat) (hr : r < 4294967296) (ha : a < 256) (hb : b < 256) (h : byt r a = byt r b) : a = b := by
  unfold byt at h
  have h1 := stpN_xor 8 (r ^^^ a) (r ^^^ b)
  rw [h, Nat.xor_self] at h1
  have h2 := stpN_eq_zero 8 _ (Nat.xor_lt_two_pow (n := 32) (Nat.xor_lt_two_pow (n := 32) hr (by omega)) (Nat.xor_lt_two_pow (n := 32) hr (by omega))) h1
  have h3 := xor_zero_eq h2
  have h4 := congrArg (r ^^^ ·) h3
  simp only [← Nat.xor_assoc, Nat.xor_self, Nat.zero_xor] at h4
  exact h4
theorem sum_set_ne (l : List Nat) (hl : ∀ b ∈ l, b < 256) (j v u : Nat) (hj : l[j]? = some v) (hu : u < 256) (hne : u ≠ v) : sum (l.set j u) ≠ sum l := by
  have hlt := (List.getElem?_eq_some_iff.1 hj).1
  have e : ∀ x, l.set j x = l.take j ++ x :: l.drop (j + 1) := fun x => List.set_eq_take_append_cons_drop.trans (by rw [if_pos hlt])
  have e2 : l = l.take j ++ v :: l.drop (j + 1) := by
    have := e v
    rw [← this]
    obtain ⟨h1, h2⟩ := List.getElem?_eq_some_iff.1 hj
    rw [← h2, List.set_getElem_self]
  intro h
  unfold sum at h
  have h1 : reg full (l.set j u) = reg full l := by
    have := congrArg (· ^^^ full) h
    simp only [xor_cancel] at this
    exact this
  rw [e u] at h1
  conv at h1 => rhs; rw [e2]
  rw [reg_append, reg_append] at h1
  have hr : reg full (l.take j) < 4294967296 := reg_lt _ _ (by decide) (fun b hb => hl b (List.mem_of_mem_take hb))
  have hv := hl v (List.mem_of_getElem? hj)
  have h2 : reg (byt (reg full (l.take j)) u) (l.drop (j + 1)) = reg (byt (reg full (l.take j)) v) (l.drop (j + 1)) := h1
  have h3 := reg_inj _ (fun b hb => hl b (List.mem_of_mem_drop hb)) _ _ (byt_lt _ _ hr hu) (byt_lt _ _ hr hv) h2
  exact hne (byt_inj _ _ _ hr hu hv h3)
end Go.Proofs.YtbbhcmfkkkjehaaGreat.Num
/- Labels by numbers and lists alone: which are good, their sectors, which label a sector is. No program is named here. -/
namespace Go.Proofs.YtbbhcmfkkkjehaaGreat.Lab
open Go.Proofs.YtbbhcmfkkkjehaaGreat.CrcA Go.Proofs.YtbbhcmfkkkjehaaGreat.Num
set_option linter.unusedVariables false
set_option linter.unusedSimpArgs false

structure Lb where
  m : Int
  t : Int
  ep : Int
  st : List Int
  mr : List Int
def Lb.zero : Lb := ⟨0, 0, 0, [], []⟩
def okAt (t s k : Int) : Bool := decide (0 ≤ s ∧ s ≤ 2 ∧ 0 ≤ k ∧ k < t ∧ (k ≤ 0 ∨ s = 2))
def Lb.okL (l : Lb) : Bool := (List.range l.st.length).all fun i => okAt l.t (l.st.getD i 0) (l.mr.getD i 0)
def ggood (m t : Int) : Bool := decide (4 ≤ m ∧ m ≤ 32 ∧ 1 ≤ t ∧ t ≤ 64)
def Lb.good (l : Lb) : Bool := ggood l.m l.t && decide (1 ≤ l.ep ∧ l.ep ≤ 9007199254740992 ∧ (l.st.length : Int) = l.m ∧ (l.mr.length : Int) = l.m) && l.okL
structure Lb.Ok (l : Lb) : Prop where
  m4 : 4 ≤ l.m
  m32 : l.m ≤ 32
  t1 : 1 ≤ l.t
  t64 : l.t ≤ 64
  e1 : 1 ≤ l.ep
  e2 : l.ep ≤ 9007199254740992
  st : (l.st.length : Int) = l.m
  mr : (l.mr.length : Int) = l.m
  at_ : ∀ i, i < l.st.length → okAt l.t (l.st.getD i 0) (l.mr.getD i 0) = true
theorem Lb.good_iff (l : Lb) : l.good = true ↔ l.Ok := by
  unfold Lb.good ggood Lb.okL
  simp only [Bool.and_eq_true, decide_eq_true_eq, List.all_eq_true, List.mem_range]
  constructor
  · rintro ⟨⟨⟨a, b, c, d⟩, e, f, g, h⟩, i⟩
    exact ⟨a, b, c, d, e, f, g, h, i⟩
  · intro h
    exact ⟨⟨⟨h.m4, h.m32, h.t1, h.t64⟩, h.e1, h.e2, h.st, h.mr⟩, h.at_⟩
theorem okAt_iff (t s k : Int) : okAt t s k = true ↔ 0 ≤ s ∧ s ≤ 2 ∧ 0 ≤ k ∧ k < t ∧ (k ≤ 0 ∨ s = 2) := by unfold okAt; simp
def zeros (n : Nat) : List Nat := List.replicate n 0
theorem zeros_length (n : Nat) : (zeros n).length = n := by simp [zeros]
def magic : List Nat := [84, 82, 85, 78]
/-- The byte of a member. -/
def Lb.byte (l : Lb) (i : Nat) : Nat := (64 * l.st.getD i 0 + l.mr.getD i 0).toNat % 256
def Lb.mid (l : Lb) : List Nat := (List.range l.st.length).map l.byte
def Lb.head (l : Lb) : List Nat := magic ++ big 8 l.ep.toNat ++ big 1 l.m.toNat ++ big 1 l.t.toNat ++ l.mid
def Lb.body (l : Lb) : List Nat := l.head ++ zeros (46 - l.head.length)
def Lb.sec (l : Lb) : List Nat := l.body ++ big 4 (sum l.body) ++ zeros 14
def Lb.put (l : Lb) : List Nat := if l.good then l.sec else []
def Lb.putE (l : Lb) : Int := if l.good then 0 else 4
theorem Lb.mid_length (l : Lb) : l.mid.length = l.st.length := by simp [Lb.mid]
theorem Lb.head_length (l : Lb) : l.head.length = 14 + l.st.length := by simp [Lb.head, Lb.mid_length, big_length, magic]; omega
theorem Lb.Ok.n32 {l : Lb} (h : l.Ok) : l.st.length ≤ 32 := by have := h.st; have := h.m32; omega
theorem Lb.body_length {l : Lb} (h : l.st.length ≤ 32) : l.body.length = 46 := by unfold Lb.body; rw [List.length_append, zeros_length, Lb.head_length]; omega
theorem Lb.sec_length {l : Lb} (h : l.st.length ≤ 32) : l.sec.length = 64 := by unfold Lb.sec; rw [List.length_append, List.length_append, zeros_length, big_length, Lb.body_length h]
theorem Lb.head_lt (l : Lb) : ∀ b ∈ l.head, b < 256 := fun b hb => by
  unfold Lb.head magic Lb.mid at hb
  simp only [List.mem_append] at hb
  rcases hb with (((hb | hb) | hb) | hb) | hb
  · simp at hb; omega
  · exact big_lt _ _ b hb
  · exact big_lt _ _ b hb
  · exact big_lt _ _ b hb
  · obtain ⟨i, _, rfl⟩ := List.mem_map.1 hb
    exact Nat.mod_lt _ (by decide)
theorem zeros_lt (n : Nat) : ∀ b ∈ zeros n, b < 256 := fun b hb => by have := List.eq_of_mem_replicate hb; omega
theorem Lb.body_lt (l : Lb) : ∀ b ∈ l.body, b < 256 := fun b hb => by
  rcases List.mem_append.1 hb with hb | hb
  · exact l.head_lt b hb
  · exact zeros_lt _ b hb
theorem Lb.sec_lt (l : Lb) : ∀ b ∈ l.sec, b < 256 := fun b hb => by
  rcases List.mem_append.1 hb with hb | hb
  · rcases List.mem_append.1 hb with hb | hb
    · exact l.body_lt b hb
    · exact big_lt _ _ b hb
  · exact zeros_lt _ b hb
/-! Which label a sector is. -/
def mems (s : List Nat) : List Nat := (s.drop 14).take (min (s.getD 12 0) 32)
def dec (s : List Nat) : Lb := ⟨(s.getD 12 0 : Nat), (s.getD 13 0 : Nat), IntKind.i64.wrap ((num ((s.drop 4).take 8) : Nat) : Int), (mems s).map (fun x => ((x / 64 : Nat) : Int)), (mems s).map (fun x => ((x % 64 : Nat) : Int))⟩
def isLab (s : List Nat) : Bool := (dec s).good && decide ((dec s).sec = s)
def getE (s : List Nat) : Int := if s.length ≠ 64 ∨ s.take 4 ≠ magic then 4 else if num ((s.drop 46).take 4) ≠ sum (s.take 46) then 6 else if isLab s then 0 else 4
def get (s : List Nat) : Lb := if getE s = 0 then dec s else Lb.zero
theorem getE_zero {s : List Nat} (h : getE s = 0) : s.length = 64 ∧ s.take 4 = magic ∧ num ((s.drop 46).take 4) = sum (s.take 46) ∧ (dec s).good = true ∧ (dec s).sec = s := by
  unfold getE at h
  split at h
  · cases h
  · rename_i h1
    split at h
    · cases h
    · rename_i h2
      split at h
      · rename_i h3
        unfold isLab at h3
        rw [Bool.and_eq_true, decide_eq_true_eq] at h3
        exact ⟨by simpa using fun e => h1 (.inl e), by simpa using fun e => h1 (.inr e), by simpa using h2, h3.1, h3.2⟩
      · cases h
/-- A good label's sector, in its parts. -/
theorem Lb.parts (l : Lb) : l.sec = magic ++ (big 8 l.ep.toNat ++ (big 1 l.m.toNat ++ (big 1 l.t.toNat ++ (l.mid ++ (zeros (46 - l.head.length) ++ (big 4 (sum l.body) ++ zeros 14)))))) := by
  unfold Lb.sec Lb.body Lb.head; simp [List.append_assoc]
theorem Lb.Ok.dec {l : Lb} (h : l.Ok) : Lab.dec l.sec = l := by
  have hl := h.n32
  have hp := l.parts
  have m0 : l.m.toNat < 256 := by have := h.m32; omega
  have t0 : l.t.toNat < 256 := by have := h.t64; omega
  have b1 : big 1 l.m.toNat = [l.m.toNat] := by simp [big, List.range_succ, Nat.mod_eq_of_lt m0]
  have b2 : big 1 l.t.toNat = [l.t.toNat] := by simp [big, List.range_succ, Nat.mod_eq_of_lt t0]
  have h12 : l.sec.getD 12 0 = l.m.toNat := by
    rw [List.getD_eq_getElem?_getD, hp, List.getElem?_append_right (by simp [magic]), List.getElem?_append_right (by rw [big_length]; simp [magic]), big_length, b1]
    simp [magic]
  have h13 : l.sec.getD 13 0 = l.t.toNat := by
    rw [List.getD_eq_getElem?_getD, hp, List.getElem?_append_right (by simp [magic]), List.getElem?_append_right (by rw [big_length]; simp [magic]), big_length, b1, b2]
    simp [magic]
  have h4 : (l.sec.drop 4).take 8 = big 8 l.ep.toNat := by
    rw [hp, List.drop_left' (by simp [magic]), List.take_left' (big_length _ _)]
  have h14 : mems l.sec = l.mid := by
    unfold mems
    rw [h12, hp]
    rw [show magic ++ (big 8 l.ep.toNat ++ (big 1 l.m.toNat ++ (big 1 l.t.toNat ++ (l.mid ++ (zeros (46 - l.head.length) ++ (big 4 (sum l.body) ++ zeros 14)))))) = (magic ++ big 8 l.ep.toNat ++ big 1 l.m.toNat ++ big 1 l.t.toNat) ++ (l.mid ++ (zeros (46 - l.head.length) ++ (big 4 (sum l.body) ++ zeros 14))) by simp [List.append_assoc], List.drop_left' (by simp [magic, big_length]), List.take_left' (by rw [l.mid_length]; have := h.st; have := h.m32; omega)]
  have e1 : l.ep.toNat < 256 ^ 8 := by have := h.e2; omega
  unfold Lab.dec
  rw [h12, h13, h4, h14, num_big, Nat.mod_eq_of_lt e1]
  obtain ⟨m, t, ep, st, mr⟩ := l
  have hm := h.m4
  have ht := h.t1
  have he := h.e1
  have he2 := h.e2
  have hst := h.st
  have hmr := h.mr
  have hat := h.at_
  have ht64 := h.t64
  dsimp only at hm ht he he2 hst hmr hat ht64
  have w1 : IntKind.i64.wrap ((ep.toNat : Nat) : Int) = ep := by rw [Int.toNat_of_nonneg (by omega)]; exact IntWalk.i64_in _ (by omega)
  have hbyte : ∀ i, i < st.length → ((Lb.byte ⟨m, t, ep, st, mr⟩ i / 64 : Nat) : Int) = st.getD i 0 ∧ ((Lb.byte ⟨m, t, ep, st, mr⟩ i % 64 : Nat) : Int) = mr.getD i 0 := fun i hi => by
    have := (okAt_iff _ _ _).1 (hat i hi)
    unfold Lb.byte
    dsimp only
    omega
  have hs : (Lb.mid ⟨m, t, ep, st, mr⟩).map (fun x => ((x / 64 : Nat) : Int)) = st := by
    apply List.ext_getElem?
    intro i
    unfold Lb.mid
    rw [List.map_map, List.getElem?_map]
    by_cases hi : i < st.length
    · rw [List.getElem?_range hi]
      simp only [Option.map_some, Function.comp]
      rw [(hbyte i hi).1, List.getD_eq_getElem?_getD, List.getElem?_eq_getElem hi]; rfl
    · rw [List.getElem?_eq_none (by simp; omega), List.getElem?_eq_none (by omega)]; rfl
  have hk : (Lb.mid ⟨m, t, ep, st, mr⟩).map (fun x => ((x % 64 : Nat) : Int)) = mr := by
    apply List.ext_getElem?
    intro i
    unfold Lb.mid
    rw [List.map_map, List.getElem?_map]
    by_cases hi : i < st.length
    · rw [List.getElem?_range hi]
      simp only [Option.map_some, Function.comp]
      rw [(hbyte i hi).2, List.getD_eq_getElem?_getD, List.getElem?_eq_getElem (by omega)]; rfl
    · rw [List.getElem?_eq_none (by simp; omega), List.getElem?_eq_none (by omega)]; rfl
  rw [w1, hs, hk]
  dsimp only
  rw [Int.toNat_of_nonneg (by omega), Int.toNat_of_nonneg (by omega)]
theorem sum_small (l : Lb) : sum l.body < 256 ^ 4 := sum_lt _ l.body_lt
theorem Lb.take4 (l : Lb) : l.sec.take 4 = magic := by rw [l.parts]; exact List.take_left' (by simp [magic])
theorem Lb.take46 {l : Lb} (h : l.st.length ≤ 32) : l.sec.take 46 = l.body := by unfold Lb.sec; rw [List.append_assoc]; exact List.take_left' (l.body_length h)
theorem Lb.drop46 {l : Lb} (h : l.st.length ≤ 32) : (l.sec.drop 46).take 4 = big 4 (sum l.body) := by unfold Lb.sec; rw [List.append_assoc, List.drop_left' (l.body_length h), List.take_left' (big_length _ _)]
theorem get_sec {l : Lb} (h : l.Ok) : getE l.sec = 0 ∧ get l.sec = l := by
  have hl := h.n32
  have hE : getE l.sec = 0 := by
    unfold getE
    rw [if_neg (by rw [l.sec_length hl, l.take4]; simp), if_neg (by rw [l.drop46 hl, l.take46 hl, num_big, Nat.mod_eq_of_lt (sum_small l)]; simp), if_pos]
    unfold isLab
    rw [h.dec, (l.good_iff).2 h]
    simp
  exact ⟨hE, by unfold get; rw [if_pos hE, h.dec]⟩
theorem num_inj {a b : List Nat} (hl : a.length = b.length) (ha : ∀ x ∈ a, x < 256) (hb : ∀ x ∈ b, x < 256) (h : num a = num b) : a = b := by
  rw [← big_num a ha, ← big_num b hb, hl, h]
theorem dec_same {s t : List Nat} (h : s.take 46 = t.take 46) : dec s = dec t := by
  have e : ∀ i, i < 46 → s[i]? = t[i]? := fun i hi => by
    have := congrArg (·[i]?) h
    simpa [List.getElem?_take, hi] using this
  have e2 : ∀ a b, a + b ≤ 46 → (s.drop a).take b = (t.drop a).take b := fun a b hab => by
    apply List.ext_getElem?
    intro i
    rw [List.getElem?_take, List.getElem?_take]
    by_cases hi : i < b
    · rw [if_pos hi, if_pos hi, List.getElem?_drop, List.getElem?_drop, e _ (by omega)]
    · rw [if_neg hi, if_neg hi]
  have g : ∀ i, i < 46 → s.getD i 0 = t.getD i 0 := fun i hi => by rw [List.getD_eq_getElem?_getD, List.getD_eq_getElem?_getD, e i hi]
  have hm : mems s = mems t := by
    unfold mems
    rw [g 12 (by omega)]
    exact e2 14 _ (by omega)
  unfold dec
  rw [hm, g 12 (by omega), g 13 (by omega), e2 4 8 (by omega)]
/-- With one byte another one it is none. -/
theorem get_spoilt {l : Lb} (h : l.Ok) (j v u : Nat) (hj : l.sec[j]? = some v) (hu : u < 256) (hne : u ≠ v) : getE (l.sec.set j u) ≠ 0 := by
  have hl := h.n32
  have hlen := l.sec_length hl
  have hj64 : j < 64 := by have := (List.getElem?_eq_some_iff.1 hj).1; omega
  have hself : ∀ (k : Nat), k = j → (l.sec.set j u)[k]? = some u := fun k hk => by subst hk; rw [List.getElem?_set_self (by omega)]
  intro hz
  obtain ⟨_, h4, h46, hg, hs⟩ := getE_zero hz
  by_cases c1 : j < 46
  · by_cases c0 : j < 4
    · have e := congrArg (·[j]?) (h4.trans l.take4.symm)
      simp only [List.getElem?_take, if_pos c0] at e
      rw [hself j rfl, hj] at e
      exact hne (Option.some.inj e)
    · have e1 : (l.sec.set j u).take 46 = l.body.set j u := by rw [List.take_set, l.take46 hl]
      have e2 : ((l.sec.set j u).drop 46).take 4 = (l.sec.drop 46).take 4 := by
        apply List.ext_getElem?
        intro i
        rw [List.getElem?_take, List.getElem?_take]
        split
        · rw [List.getElem?_drop, List.getElem?_drop, List.getElem?_set_ne (by omega)]
        · rfl
      rw [e1, e2, l.drop46 hl, num_big, Nat.mod_eq_of_lt (sum_small l)] at h46
      have hb : l.body[j]? = some v := by rw [← l.take46 hl, List.getElem?_take, if_pos c1]; exact hj
      exact sum_set_ne l.body l.body_lt j v u hb hu hne h46.symm
  · have e1 : (l.sec.set j u).take 46 = l.sec.take 46 := by
      apply List.ext_getElem?
      intro i
      rw [List.getElem?_take, List.getElem?_take]
      split
      · rw [List.getElem?_set_ne (by omega)]
      · rfl
    by_cases c2 : j < 50
    · rw [e1, ← (show num ((l.sec.drop 46).take 4) = sum (l.sec.take 46) by rw [l.drop46 hl, l.take46 hl, num_big, Nat.mod_eq_of_lt (sum_small l)])] at h46
      have e3 : ((l.sec.set j u).drop 46).take 4 = (l.sec.drop 46).take 4 := num_inj (by simp) (fun x hx => by
        have hx := List.mem_of_mem_drop (List.mem_of_mem_take hx)
        rcases List.mem_or_eq_of_mem_set hx with e | e
        · exact l.sec_lt x e
        · omega) (fun x hx => l.sec_lt x (List.mem_of_mem_drop (List.mem_of_mem_take hx))) h46
      have e := congrArg (·[j - 46]?) e3
      simp only [List.getElem?_take, if_pos (show j - 46 < 4 by omega), List.getElem?_drop] at e
      rw [hself (46 + (j - 46)) (by omega), show 46 + (j - 46) = j by omega, hj] at e
      exact hne (Option.some.inj e)
    · rw [dec_same e1, h.dec] at hs
      have e : l.sec[j]? = (l.sec.set j u)[j]? := congrArg (fun x : List Nat => x[j]?) hs
      rw [hself j rfl, hj] at e
      exact hne (Option.some.inj e).symm
end Go.Proofs.YtbbhcmfkkkjehaaGreat.Lab
/- Go's bit operations on unsigned kinds, as those of natural numbers. -/
namespace Go.Proofs.YtbbhcmfkkkjehaaGreat.Bits

theorem wrap_nat (k : IntKind) (hk : k.signed = false) (n : Nat) (h : n < 2 ^ k.bits) : k.wrap (n : Int) = n := by
  unfold IntKind.wrap
  simp only [hk, Bool.false_and, if_neg (show ¬ (false = true) by decide)]
  have : ((n : Int) % 2 ^ k.bits) = ((n % 2 ^ k.bits : Nat) : Int) := by simp
  rw [this, Nat.mod_eq_of_lt h]

theorem ofInt_nat (k : IntKind) (n : Nat) (h : n < 2 ^ k.bits) : (BitVec.ofInt k.bits (n : Int)).toNat = n := by
  rw [BitVec.ofInt_natCast, BitVec.toNat_ofNat, Nat.mod_eq_of_lt h]

theorem xor_nat (k : IntKind) (hk : k.signed = false) (a b : Nat) (ha : a < 2 ^ k.bits) (hb : b < 2 ^ k.bits) : Go.bits .xor k a b = ((a ^^^ b : Nat) : Int) := by
  simp only [Go.bits, BitVec.toNat_xor, ofInt_nat k a ha, ofInt_nat k b hb]
  exact wrap_nat k hk _ (Nat.xor_lt_two_pow ha hb)
theorem and_nat (k : IntKind) (hk : k.signed = false) (a b : Nat) (ha : a < 2 ^ k.bits) (hb : b < 2 ^ k.bits) : Go.bits .and k a b = ((a &&& b : Nat) : Int) := by
  simp only [Go.bits, BitVec.toNat_and, ofInt_nat k a ha, ofInt_nat k b hb]
  exact wrap_nat k hk _ (Nat.and_lt_two_pow _ hb)
theorem or_nat (k : IntKind) (hk : k.signed = false) (a b : Nat) (ha : a < 2 ^ k.bits) (hb : b < 2 ^ k.bits) : Go.bits .or k a b = ((a ||| b : Nat) : Int) := by
  simp only [Go.bits, BitVec.toNat_or, ofInt_nat k a ha, ofInt_nat k b hb]
  exact wrap_nat k hk _ (Nat.or_lt_two_pow ha hb)

theorem xor_u8 (a b : Nat) (ha : a < 256) (hb : b < 256) : Go.bits .xor .u8 a b = ((a ^^^ b : Nat) : Int) := xor_nat .u8 rfl a b ha hb
theorem xor_u32 (a b : Nat) (ha : a < 4294967296) (hb : b < 4294967296) : Go.bits .xor .u32 a b = ((a ^^^ b : Nat) : Int) := xor_nat .u32 rfl a b ha hb
theorem xor_u64 (a b : Nat) (ha : a < 18446744073709551616) (hb : b < 18446744073709551616) : Go.bits .xor .u64 a b = ((a ^^^ b : Nat) : Int) := xor_nat .u64 rfl a b ha hb
theorem and_u8 (a b : Nat) (ha : a < 256) (hb : b < 256) : Go.bits .and .u8 a b = ((a &&& b : Nat) : Int) := and_nat .u8 rfl a b ha hb
theorem and_u32 (a b : Nat) (ha : a < 4294967296) (hb : b < 4294967296) : Go.bits .and .u32 a b = ((a &&& b : Nat) : Int) := and_nat .u32 rfl a b ha hb
theorem and_u64 (a b : Nat) (ha : a < 18446744073709551616) (hb : b < 18446744073709551616) : Go.bits .and .u64 a b = ((a &&& b : Nat) : Int) := and_nat .u64 rfl a b ha hb
theorem or_u64 (a b : Nat) (ha : a < 18446744073709551616) (hb : b < 18446744073709551616) : Go.bits .or .u64 a b = ((a ||| b : Nat) : Int) := or_nat .u64 rfl a b ha hb
theorem odd_u8 (a : Nat) (ha : a < 256) : Go.bits .and .u8 a 1 = ((a % 2 : Nat) : Int) := by
  have h := and_u8 a 1 ha (by decide)
  rw [Nat.and_one_is_mod] at h
  exact h
theorem odd_u32 (a : Nat) (ha : a < 4294967296) : Go.bits .and .u32 a 1 = ((a % 2 : Nat) : Int) := by
  have h := and_u32 a 1 ha (by decide)
  rw [Nat.and_one_is_mod] at h
  exact h
theorem odd_u64 (a : Nat) (ha : a < 18446744073709551616) : Go.bits .and .u64 a 1 = ((a % 2 : Nat) : Int) := by
  have h := and_u64 a 1 ha (by decide)
  rw [Nat.and_one_is_mod] at h
  exact h
end Go.Proofs.YtbbhcmfkkkjehaaGreat.Bits
/- Sums bit by bit, walked: crc.step, crc.Slow, and the document's xor, turned, On, More, Sum, Join. -/
namespace Go.Proofs.YtbbhcmfkkkjehaaGreat.CrcS
open Go.RowKit Go.Proofs.YtbbhcmfkkkjehaaGreat.Mem Go.Proofs.YtbbhcmfkkkjehaaGreat.CrcA Go.Proofs.YtbbhcmfkkkjehaaGreat.Bits
open Go.Proofs.YtbbhcmfkkkjehaaGreatW.PrintWords hiding bt
set_option linter.unusedVariables false
set_option linter.unusedSimpArgs false

/-- A string's bytes. -/
def by8 (s : ByteArray) : List Nat := s.data.toList.map UInt8.toNat
theorem by8_length (s : ByteArray) : (by8 s).length = s.size := by simp [by8]
theorem by8_lt (s : ByteArray) : ∀ b ∈ by8 s, b < 256 := by
  intro b hb
  simp only [by8, List.mem_map] at hb
  obtain ⟨x, _, rfl⟩ := hb
  exact x.toNat_lt
theorem by8_at (s : ByteArray) (k : Nat) (h : k < s.size) : ∃ b : Nat, b < 256 ∧ (∀ h : k < s.size, ((s[k]'h).toNat : Int) = (b : Int)) ∧ (by8 s)[k]? = some b := by
  refine ⟨(s[k]'h).toNat, UInt8.toNat_lt _, fun _ => rfl, ?_⟩
  · have h' : k < s.data.toList.length := by simpa using h
    simp [by8, List.getElem?_map, List.getElem?_eq_getElem h']
    rfl
theorem reg_take (r : Nat) (l : List Nat) (k b : Nat) (h : l[k]? = some b) : reg r (l.take (k + 1)) = byt (reg r (l.take k)) b := by
  rw [List.take_add_one, h, reg_append]; rfl
theorem reg_take_lt (s : ByteArray) (k r : Nat) (h : r < 4294967296) : reg r ((by8 s).take k) < 4294967296 :=
  reg_lt _ _ h (fun b hb => by8_lt s b (List.mem_of_mem_take hb))
theorem not_u32 (r : Nat) (h : r < 4294967296) : Go.bits .xor .u32 4294967295 r = ((r ^^^ full : Nat) : Int) := by
  have := xor_u32 4294967295 r (by decide) h
  rw [Nat.xor_comm] at this
  exact this

theorem stpN_succ (n r : Nat) : stpN (n + 1) r = stp (stpN n r) := stpN_add n 1 r
theorem stpN_at0 (r : Nat) : stpN 0 r = r := rfl
theorem reg_nil (r : Nat) : reg r [] = r := rfl
theorem byt_def (r b : Nat) : stpN 8 (r ^^^ b) = byt r b := rfl
theorem sum_def (l : List Nat) : reg full l ^^^ full = CrcA.sum l := rfl

theorem unary_not_u32 (n : Int) : Op.unary .xor (.int .u32 n) = Op.intBits .xor .u32 4294967295 n := rfl
attribute [local go_sem high] unary_not_u32

attribute [local irreducible] stp stpN byt reg sum

theorem stp_odd (r : Nat) (h : r % 2 = 1) : stp r = (r / 2) ^^^ 3988292384 := by
  unfold stp; rw [if_pos (by simp [Nat.testBit_zero, h])]; rfl
theorem stp_pair (r : Nat) (h : r % 2 = 0) : stp r = r / 2 := by
  unfold stp; rw [if_neg (by simp [Nat.testBit_zero, h])]; exact Nat.xor_zero _
theorem step_calls (r : Nat) (hr : r < 4294967296) (w : World) :
    Calls Tryz.prog 165 #[.int .u32 r] w fun e w' => e = .returned (.int .u32 (stp r : Nat)) ∧ Drawn0 w w' := by
  have ho := odd_u32 r hr
  have hx := xor_u32 (r / 2) 3988292384 (by omega) (by decide)
  have hx' : Go.bits .xor .u32 ((r : Int) / 2) 3988292384 = ((r / 2 ^^^ 3988292384 : Nat) : Int) := hx
  clear hx
  rcases Nat.mod_two_eq_zero_or_one r with h | h
  · rw [stp_pair r h]
    rw [h] at ho
    go_enter Tryz.func165, Tryz.ntmps165
    go_wp2
    go_ret
    exact ⟨rfl, by first | exact Drawn0.refl _ | (apply Drawn0.step; exact Drawn0.refl _)⟩
  · rw [stp_odd r h]
    rw [h] at ho
    go_enter Tryz.func165, Tryz.ntmps165
    go_wp2
    go_ret
    exact ⟨rfl, by first | exact Drawn0.refl _ | (apply Drawn0.step; exact Drawn0.refl _)⟩

set_option maxHeartbeats 4000000 in
set_option maxRecDepth 100000 in
theorem slow_calls (s : ByteArray) (hs : s.size ≤ 9223372036854775807) (w : World) :
    Calls Tryz.prog 124 #[.string s] w fun e w' => e = .returned (.int .u32 (CrcA.sum (by8 s) : Nat)) ∧ Drawn0 w w' := by
  go_enter Tryz.func124, Tryz.ntmps124
  go_wp2
  go_loopw [3, 7] (fun x i wr => ∃ k n : Nat, k ≤ s.size ∧ n < 4294967296 ∧ Hid (n = reg full ((by8 s).take k)) ∧ i = .int .i64 k ∧ x = .int .u32 n ∧ Drawn0 w wr) (fun _ i _ => s.size - (intOf i).toNat)
  case atStart => exact ⟨0, full, Nat.zero_le _, by decide, Lib.hid (by simp [reg]), rfl, rfl, Drawn0.refl _⟩
  case round =>
    obtain ⟨k, n, hk, hn, HN, rfl, rfl, ⟨nd, rfl⟩⟩ := hrel
    by_cases hlt : k < s.size
    · obtain ⟨b, hb, hbt, hb8⟩ := by8_at s k hlt
      have hx := xor_u32 n b hn (by omega)
      have dlt : decide ((k : Int) < (s.size : Int)) = true := decide_eq_true (by omega)
      have q6 : ((k : Int) < (s.size : Int)) = True := eq_true (by omega)
      have hw : (b : Int) % 4294967296 = b := by omega
      have hm : n ^^^ b < 4294967296 := Nat.xor_lt_two_pow (n := 32) hn (by omega)
      go_wp2
      go_loopw [3, 16] (fun x i wr => ∃ j m : Nat, j ≤ 8 ∧ m < 4294967296 ∧ Hid (m = stpN j (n ^^^ b)) ∧ i = .int .i64 j ∧ x = .int .u32 m ∧ Drawn0 w wr) (fun _ i _ => 8 - (intOf i).toNat)
      case atStart => exact ⟨0, n ^^^ b, by omega, hm, Lib.hid (stpN_at0 _).symm, rfl, rfl, ⟨_, rfl⟩⟩
      case round =>
        obtain ⟨j, m, hj, hm, HM, rfl, rfl, ⟨nd2, rfl⟩⟩ := hrel
        by_cases hl : j < 8
        · go_wp2_with fail
          refine (step_calls m hm _).mono ?_
          rintro e w1 ⟨rfl, ⟨nd3, rfl⟩⟩
          go_wp2
          exact ⟨⟨j + 1, stp m, by omega, stp_lt _ hm, Lib.hid (by rw [HM.out, stpN_succ]), by go_num, rfl, by repeat (first | exact ⟨_, rfl⟩ | apply Drawn0.step)⟩, by simp [intOf]; omega⟩
        · obtain rfl : j = 8 := by omega
          go_wp2
          exact ⟨⟨k + 1, m, by omega, hm, Lib.hid (by rw [HM.out, reg_take _ _ _ _ hb8, ← HN.out, byt_def]), by go_num, rfl, ⟨_, rfl⟩⟩, by simp [intOf]; omega⟩
    · obtain rfl : k = s.size := by omega
      have hx := not_u32 n hn
      go_wp2
      go_ret
      refine ⟨?_, ⟨_, rfl⟩⟩
      have e : n ^^^ full = CrcA.sum (by8 s) := by rw [HN.out, List.take_of_length_le (by rw [by8_length]; exact Nat.le_refl _), sum_def]
      rw [← e]; rfl

/-! The document's. -/
theorem half_bit (A k : Nat) : A / 2 ^ k % 2 = if A.testBit k then 1 else 0 := by
  rw [Nat.testBit_eq_decide_div_mod_eq]
  by_cases h : A / 2 ^ k % 2 = 1
  · rw [h]; rfl
  · rw [show A / 2 ^ k % 2 = 0 by omega]; rfl
theorem mod_next (X k : Nat) : X % 2 ^ (k + 1) = X % 2 ^ k + (if X.testBit k then 2 ^ k else 0) := by
  rw [Nat.pow_succ, Nat.mod_mul, half_bit]
  cases X.testBit k <;> simp

set_option maxHeartbeats 4000000 in
set_option maxRecDepth 100000 in
theorem xor_calls (A B : Nat) (hA : A < 4294967296) (hB : B < 4294967296) (w : World) :
    Calls Tryz.prog 211 #[.int .u32 A, .int .u32 B] w fun e w' => e = .returned (.int .u32 (A ^^^ B : Nat)) ∧ Drawn0 w w' := by
  have hX : A ^^^ B < 4294967296 := Nat.xor_lt_two_pow (n := 32) hA hB
  go_enter Tryz.func211, Tryz.ntmps211
  go_wp2
  go_loopw [0, 1, 5, 6, 7] (fun x0 x1 x5 x6 x7 wr => ∃ k a b n p : Nat, k ≤ 32 ∧ a < 4294967296 ∧ b < 4294967296 ∧ n < 4294967296 ∧ p < 4294967296 ∧ Hid (a = A / 2 ^ k ∧ b = B / 2 ^ k ∧ n = (A ^^^ B) % 2 ^ k ∧ p = 2 ^ k % 4294967296) ∧ x0 = .int .u32 a ∧ x1 = .int .u32 b ∧ x5 = .int .u32 n ∧ x6 = .int .u32 p ∧ x7 = .int .i64 k ∧ Drawn0 w wr) (fun _ _ _ _ i _ => 32 - (intOf i).toNat)
  case atStart => exact ⟨0, A, B, 0, 1, by omega, hA, hB, by omega, by omega, Lib.hid ⟨by simp, by simp, by simp [Nat.mod_one], by decide⟩, rfl, rfl, rfl, rfl, rfl, Drawn0.refl _⟩
  case round =>
    obtain ⟨k, a, b, n, p, hk, ha, hb, hn, hp, HX, rfl, rfl, rfl, rfl, rfl, ⟨nd, rfl⟩⟩ := hrel
    by_cases hlt : k < 32
    · have hpk : p = 2 ^ k := by
        rw [HX.out.2.2.2, Nat.mod_eq_of_lt]
        exact Nat.pow_lt_pow_right (by decide) hlt
      have hsum : (A ^^^ B) % 2 ^ (k + 1) = n + (if (a % 2 == b % 2) then 0 else p) := by
        rw [mod_next, HX.out.2.2.1, hpk, HX.out.1, HX.out.2.1, half_bit, half_bit, Nat.testBit_xor]
        cases A.testBit k <;> cases B.testBit k <;> simp
      have h2 : 2 * p % 4294967296 = 2 ^ (k + 1) % 4294967296 := by rw [hpk, Nat.pow_succ, Nat.mul_comm]
      have hle : (A ^^^ B) % 2 ^ (k + 1) < 4294967296 := Nat.lt_of_le_of_lt (Nat.mod_le _ _) hX
      have ha2 : a / 2 = A / 2 ^ (k + 1) := by rw [HX.out.1, Nat.div_div_eq_div_mul, Nat.pow_succ]
      have hb2 : b / 2 = B / 2 ^ (k + 1) := by rw [HX.out.2.1, Nat.div_div_eq_div_mul, Nat.pow_succ]
      have HS := Lib.hid (And.intro ha2 (And.intro hb2 h2))
      clear ha2 hb2 h2 hpk
      by_cases he : a % 2 = b % 2
      · have e1 : ((a % 2 : Nat) : Int) = ((b % 2 : Nat) : Int) := by rw [he]
        rw [if_pos (beq_iff_eq.2 he)] at hsum
        have HS2 := Lib.hid hsum
        clear hsum hle
        have q0 : (((a : Int) % 2) == ((b : Int) % 2)) = true := beq_iff_eq.2 (by omega)
        have q1 : (((a : Int) % 2) != ((b : Int) % 2)) = false := bne_eq_false_iff_eq.2 (by omega)
        clear he e1
        go_wp2
        exact ⟨⟨k + 1, a / 2, b / 2, n, 2 * p % 4294967296, by omega, by omega, by omega, hn, by omega, Lib.hid ⟨HS.out.1, HS.out.2.1, by have := HS2.out; omega, HS.out.2.2⟩, by go_num, by go_num, rfl, by go_num, by go_num, ⟨_, rfl⟩⟩, by simp [intOf]; omega⟩
      · rw [if_neg (by simpa using he)] at hsum
        have hs : n + p < 4294967296 := by omega
        have HS2 := Lib.hid hsum
        clear hsum hle
        have q0 : (((a : Int) % 2) == ((b : Int) % 2)) = false := beq_eq_false_iff_ne.2 (by omega)
        have q1 : (((a : Int) % 2) != ((b : Int) % 2)) = true := bne_iff_ne.2 (by omega)
        clear he
        go_wp2
        exact ⟨⟨k + 1, a / 2, b / 2, n + p, 2 * p % 4294967296, by omega, by omega, by omega, by omega, by omega, Lib.hid ⟨HS.out.1, HS.out.2.1, by have := HS2.out; omega, HS.out.2.2⟩, by go_num, by go_num, by go_num, by go_num, by go_num, ⟨_, rfl⟩⟩, by simp [intOf]; omega⟩
    · obtain rfl : k = 32 := by omega
      go_wp2
      go_ret
      refine ⟨?_, ⟨_, rfl⟩⟩
      have e : n = A ^^^ B := by rw [HX.out.2.2.1]; exact Nat.mod_eq_of_lt hX
      rw [← e]; rfl

theorem half_xor_calls (m : Nat) (hm : m < 4294967296) (w : World) :
    Calls Tryz.prog 211 #[.int .u32 ((m : Int) / 2), .int .u32 3988292384] w fun e w' => e = .returned (.int .u32 (m / 2 ^^^ 3988292384 : Nat)) ∧ Drawn0 w w' := by
  have h := xor_calls (m / 2) 3988292384 (by omega) (by decide) w
  rw [show ((m / 2 : Nat) : Int) = (m : Int) / 2 by omega] at h
  exact h

theorem full_sub (r : Nat) (h : r < 4294967296) : r ^^^ full = 4294967295 - r := by
  refine Eq.trans ?_ (show 2 ^ 32 - (r + 1) = 4294967295 - r by omega)
  apply Nat.eq_of_testBit_eq
  intro i
  rw [Nat.testBit_two_pow_sub_succ (n := 32) h, Nat.testBit_xor]
  have hf : full.testBit i = decide (i < 32) := by
    rw [show full = 2 ^ 32 - 1 by decide, Nat.testBit_two_pow_sub_one]
  rw [hf]
  by_cases hi : i < 32
  · simp [hi]
  · simp only [hi, decide_false, Bool.xor_false, Bool.false_and]
    exact Nat.testBit_lt_two_pow (Nat.lt_of_lt_of_le h (Nat.pow_le_pow_right (n := 2) (by decide) (by omega : 32 ≤ i)))
theorem turned_calls (r : Nat) (hr : r < 4294967296) (w : World) :
    Calls Tryz.prog 195 #[.int .u32 r] w fun e w' => e = .returned (.int .u32 (r ^^^ full : Nat)) ∧ Drawn0 w w' := by
  rw [full_sub r hr]
  go_enter Tryz.func195, Tryz.ntmps195
  go_wp2
  go_ret
  exact ⟨by go_num, by first | exact Drawn0.refl _ | (apply Drawn0.step; exact Drawn0.refl _)⟩

set_option maxHeartbeats 4000000 in
set_option maxRecDepth 100000 in
theorem on_calls (r b : Nat) (hr : r < 4294967296) (hb : b < 256) (w : World) :
    Calls Tryz.prog 196 #[.int .u32 r, .int .u8 b] w fun e w' => e = .returned (.int .u32 (byt r b : Nat)) ∧ Drawn0 w w' := by
  have hw : (b : Int) % 4294967296 = b := by omega
  have hm : r ^^^ b < 4294967296 := Nat.xor_lt_two_pow (n := 32) hr (by omega)
  go_enter Tryz.func196, Tryz.ntmps196
  go_wp2_with fail
  refine (xor_calls r b hr (by omega) _).mono ?_
  rintro e w1 ⟨rfl, ⟨nd1, rfl⟩⟩
  go_wp2
  go_loopw [0, 5] (fun x i wr => ∃ j m : Nat, j ≤ 8 ∧ m < 4294967296 ∧ Hid (m = stpN j (r ^^^ b)) ∧ i = .int .i64 j ∧ x = .int .u32 m ∧ Drawn0 w wr) (fun _ i _ => 8 - (intOf i).toNat)
  case atStart => exact ⟨0, r ^^^ b, by omega, hm, Lib.hid (stpN_at0 _).symm, rfl, rfl, ⟨_, rfl⟩⟩
  case round =>
    obtain ⟨j, m, hj, hm, HM, rfl, rfl, ⟨nd2, rfl⟩⟩ := hrel
    by_cases hl : j < 8
    · have hd : m / 2 < 4294967296 := by omega
      rcases Nat.mod_two_eq_zero_or_one m with h | h
      · have hs := stp_pair m h
        have hr : (m : Int) % 2 = 0 := by omega
        have HS := Lib.hid hs
        clear h hs
        go_wp2
        exact ⟨⟨j + 1, m / 2, by omega, by omega, Lib.hid (by rw [stpN_succ, ← HM.out, HS.out]), by go_num, rfl, ⟨_, rfl⟩⟩, by simp [intOf]; omega⟩
      · have hs := stp_odd m h
        have hr : (m : Int) % 2 = 1 := by omega
        have hx : m / 2 ^^^ 3988292384 < 4294967296 := Nat.xor_lt_two_pow (n := 32) hd (by decide)
        have HS := Lib.hid hs
        clear h hs
        go_wp2_with fail
        refine (half_xor_calls m hm _).mono ?_
        rintro e w1 ⟨rfl, ⟨nd3, rfl⟩⟩
        go_wp2
        exact ⟨⟨j + 1, m / 2 ^^^ 3988292384, by omega, hx, Lib.hid (by rw [stpN_succ, ← HM.out, HS.out]), by go_num, rfl, by repeat (first | exact ⟨_, rfl⟩ | apply Drawn0.step)⟩, by simp [intOf]; omega⟩
    · obtain rfl : j = 8 := by omega
      go_wp2
      go_ret
      refine ⟨?_, ⟨_, rfl⟩⟩
      rw [← byt_def, ← HM.out]; rfl

set_option maxHeartbeats 4000000 in
set_option maxRecDepth 100000 in
theorem more_calls (r : Nat) (s : ByteArray) (hr : r < 4294967296) (hs : s.size ≤ 9223372036854775807) (w : World) :
    Calls Tryz.prog 170 #[.int .u32 r, .string s] w fun e w' => e = .returned (.int .u32 (reg (r ^^^ full) (by8 s) ^^^ full : Nat)) ∧ Drawn0 w w' := by
  have hr2 : r ^^^ full < 4294967296 := Nat.xor_lt_two_pow (n := 32) hr (by decide)
  go_enter Tryz.func170, Tryz.ntmps170
  go_wp2_with fail
  refine (turned_calls r hr _).mono ?_
  rintro e w1 ⟨rfl, ⟨nd1, rfl⟩⟩
  go_wp2
  go_loopw [5, 6] (fun x i wr => ∃ k n : Nat, k ≤ s.size ∧ n < 4294967296 ∧ Hid (n = reg (r ^^^ full) ((by8 s).take k)) ∧ i = .int .i64 k ∧ x = .int .u32 n ∧ Drawn0 w wr) (fun _ i _ => s.size - (intOf i).toNat)
  case atStart => exact ⟨0, r ^^^ full, Nat.zero_le _, hr2, Lib.hid (reg_nil _).symm, rfl, rfl, ⟨_, rfl⟩⟩
  case round =>
    obtain ⟨k, n, hk, hn, HN, rfl, rfl, ⟨nd, rfl⟩⟩ := hrel
    by_cases hlt : k < s.size
    · obtain ⟨b, hb, hbt, hb8⟩ := by8_at s k hlt
      have dlt : decide ((k : Int) < (s.size : Int)) = true := decide_eq_true (by omega)
      have q6 : ((k : Int) < (s.size : Int)) = True := eq_true (by omega)
      go_wp2_with fail
      refine (on_calls n b hn hb _).mono ?_
      rintro e w1 ⟨rfl, ⟨nd3, rfl⟩⟩
      go_wp2
      exact ⟨⟨k + 1, byt n b, by omega, byt_lt n b hn hb, Lib.hid (by rw [reg_take _ _ _ _ hb8, ← HN.out]), by go_num, rfl, by repeat (first | exact ⟨_, rfl⟩ | apply Drawn0.step)⟩, by simp [intOf]; omega⟩
    · obtain rfl : k = s.size := by omega
      go_wp2_with fail
      refine (turned_calls n hn _).mono ?_
      rintro e w1 ⟨rfl, ⟨nd3, rfl⟩⟩
      go_wp2
      go_ret
      refine ⟨?_, by repeat (first | exact ⟨_, rfl⟩ | apply Drawn0.step)⟩
      have e : n = reg (r ^^^ full) (by8 s) := by rw [HN.out, List.take_of_length_le (by rw [by8_length]; exact Nat.le_refl _)]
      rw [← e]; rfl
theorem sum_calls (s : ByteArray) (hs : s.size ≤ 9223372036854775807) (w : World) :
    Calls Tryz.prog 130 #[.string s] w fun e w' => e = .returned (.int .u32 (CrcA.sum (by8 s) : Nat)) ∧ Drawn0 w w' := by
  go_enter Tryz.func130, Tryz.ntmps130
  go_wp2_with fail
  refine (more_calls 0 s (by decide) hs _).mono ?_
  rintro e w1 ⟨rfl, ⟨nd1, rfl⟩⟩
  go_wp2
  go_ret
  exact ⟨by rw [← sum_def]; simp, by repeat (first | exact ⟨_, rfl⟩ | apply Drawn0.step)⟩
end Go.Proofs.YtbbhcmfkkkjehaaGreat.CrcS
/- Bytes made, and read as a string. -/
namespace Go.Proofs.YtbbhcmfkkkjehaaGreat.B8
open Go.RowKit Go.Proofs.YtbbhcmfkkkjehaaGreat.Mem Go.Proofs.YtbbhcmfkkkjehaaGreat.CrcS
open Go.Proofs.YtbbhcmfkkkjehaaGreatW.PrintWords hiding bt
set_option linter.unusedVariables false
set_option linter.unusedSimpArgs false

def bytes (l : List UInt8) : ByteArray := ⟨l.toArray⟩
def cells8 (l : List UInt8) : Array Value := (l.map fun b => Value.int .u8 (b.toNat : Int)).toArray
theorem conv8 (W : World) (b : Nat) (l : List UInt8) (n c : Nat) (hn : l.length = n) (h : Blk W b (cells8 l) 5) : (convert 56 9 (.slice (some ⟨b, 0, none⟩) n c)).run Tryz.prog W = .ok (.string (bytes l)) W := by
  have h := run_convert_bytes_back (P := Tryz.prog) W 56 9 5 ⟨b, 0, none⟩ c l (by kernel_rfl) (by kernel_rfl) (by kernel_rfl) (fun j hj => by
    rw [Addr.add_mid, Nat.zero_add, h.cell]
    unfold cells8
    rw [List.getElem?_toArray, List.getElem?_map, List.getElem?_eq_getElem hj]; rfl)
  rw [hn] at h
  exact h
theorem made8 (W : World) (N : Nat) (hN : N ≤ 100000) : (Instr.makeSlice 56 (.int .i64 (N : Nat)) (.int .i64 (N : Nat))).run Tryz.prog W = .ok (.slice (some ⟨W.heap.size, 0, none⟩) N N) (W.alloc (.cells (cells8 (List.replicate N 0)) 5)) := by
  obtain ⟨info, hinfo, hz, hsz, hby⟩ : ∃ i, Tryz.prog.info? 5 = some i ∧ i.zero = some (.int .u8 0) ∧ i.size = 1 ∧ i.bytes = 1 := by
    have h : (Tryz.prog.info? 5).map (fun i => (i.zero, i.size, i.bytes)) = some (some (.int .u8 0), 1, 1) := by kernel_rfl
    cases hq : Tryz.prog.info? 5 with
    | none => rw [hq] at h; simp at h
    | some i =>
      rw [hq] at h
      simp at h
      exact ⟨i, rfl, h.1, h.2.1, h.2.2⟩
  have h := run_makeSlice (P := Tryz.prog) W 56 5 info (.int .u8 0) (by kernel_rfl) hinfo hz .i64 .i64 N N (by omega) (by omega) (by rw [hsz]; omega) (by rw [hby]; omega) (by omega)
  rw [hsz, Int.toNat_natCast, Nat.mul_one] at h
  have e : madeCells (Value.int .u8 0).cells N = cells8 (List.replicate N 0) := by
    apply Array.ext
    · rw [size_madeCells]; unfold cells8; simp
    · intro i h1 h2
      have e : (Value.int IntKind.u8 0).cells = #[.int .u8 0] := rfl
      unfold cells8
      simp only [madeCells, e, Array.getElem_map, List.map_replicate, List.getElem_toArray, List.getElem_replicate]
      simp [Nat.mod_one]
  rw [e] at h
  exact h
/-- A string whose bytes these are. -/
def bts (l : List Nat) : ByteArray := bytes (l.map UInt8.ofNat)
theorem bts_size (l : List Nat) : (bts l).size = l.length := by unfold bts bytes; simp [ByteArray.size]
theorem by8_bts (l : List Nat) (h : ∀ b ∈ l, b < 256) : by8 (bts l) = l := by
  unfold by8 bts bytes
  simp only [List.toList_toArray, List.map_map]
  conv => rhs; rw [← List.map_id l]
  exact List.map_congr_left fun b hb => by simp [Nat.mod_eq_of_lt (h b hb)]
theorem bts_by8 (s : ByteArray) : bts (by8 s) = s := by
  obtain ⟨⟨l⟩⟩ := s
  unfold by8 bts bytes
  simp only [List.map_map]
  rw [show (UInt8.ofNat ∘ UInt8.toNat) = id from funext fun x => by simp]
  simp
theorem by8_inj {s t : ByteArray} (h : by8 s = by8 t) : s = t := by rw [← bts_by8 s, ← bts_by8 t, h]
theorem by8_app (s t : ByteArray) : by8 (s ++ t) = by8 s ++ by8 t := by unfold by8; rw [ByteArray.data_append, Array.toList_append, List.map_append]
theorem bts_app (l m : List Nat) : bts (l ++ m) = bts l ++ bts m := by
  apply by8_inj
  rw [by8_app]
  unfold by8 bts bytes
  simp
theorem cells8_nat (l : List Nat) (h : ∀ b ∈ l, b < 256) : cells8 (l.map UInt8.ofNat) = (l.map fun (b : Nat) => Value.int .u8 (b : Int)).toArray := by
  unfold cells8
  rw [List.map_map]
  congr 1
  exact List.map_congr_left fun b hb => by simp [Nat.mod_eq_of_lt (h b hb)]
end Go.Proofs.YtbbhcmfkkkjehaaGreat.B8
