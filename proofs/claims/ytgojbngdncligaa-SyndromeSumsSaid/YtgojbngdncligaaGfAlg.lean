/- The field of 256 elements by numbers alone: the product is linear on both sides, may be taken in any order; powers of 2 and logarithms. -/
import Derived.Test.YtgojbngdncligaaGmul
namespace Go.Proofs.Ytgojbngdncligaa.Gmul

theorem clTo_xor_right (a b c : Nat) (i : Nat) : clTo a (b ^^^ c) i = clTo a b i ^^^ clTo a c i := by
  induction i with
  | zero => simp [clTo]
  | succ i ih =>
    simp only [clTo, ih]
    cases a.testBit i with
    | false => simp
    | true =>
      simp only [if_true, Nat.shiftLeft_xor_distrib]
      ac_rfl
theorem clTo_xor_left (a b c : Nat) (i : Nat) : clTo (a ^^^ b) c i = clTo a c i ^^^ clTo b c i := by
  induction i with
  | zero => simp [clTo]
  | succ i ih =>
    simp only [clTo, ih, Nat.testBit_xor]
    have e : ∀ p q x y z : Nat, p ^^^ q = p ^^^ q := fun _ _ _ _ _ => rfl
    cases a.testBit i <;> cases b.testBit i <;> simp
    · ac_rfl
    · ac_rfl
    · rw [show clTo a c i ^^^ c <<< i ^^^ (clTo b c i ^^^ c <<< i) = (clTo a c i ^^^ clTo b c i) ^^^ (c <<< i ^^^ c <<< i) by ac_rfl]
      simp
theorem redStep_xor (C D i : Nat) : redStep (C ^^^ D) i = redStep C i ^^^ redStep D i := by
  unfold redStep
  rw [Nat.testBit_xor]
  cases C.testBit i <;> cases D.testBit i <;> simp
  · ac_rfl
  · ac_rfl
  · rw [show C ^^^ 285 <<< (i - 8) ^^^ (D ^^^ 285 <<< (i - 8)) = (C ^^^ D) ^^^ (285 <<< (i - 8) ^^^ 285 <<< (i - 8)) by ac_rfl]
    simp
theorem redTo_xor (C D n : Nat) : redTo (C ^^^ D) n = redTo C n ^^^ redTo D n := by
  induction n with
  | zero => rfl
  | succ n ih => simp only [redTo, ih, redStep_xor]
theorem gmul_lt (a b : Nat) : gmul a b < 256 := Nat.mod_lt _ (by decide)
theorem gmul_xor_right (a b c : Nat) : gmul a (b ^^^ c) = gmul a b ^^^ gmul a c := by
  unfold gmul
  rw [clTo_xor_right, redTo_xor]
  exact Nat.xor_mod_two_pow (n := 8)
theorem gmul_xor_left (a b c : Nat) : gmul (a ^^^ b) c = gmul a c ^^^ gmul b c := by
  unfold gmul
  rw [clTo_xor_left, redTo_xor]
  exact Nat.xor_mod_two_pow (n := 8)

/-- Two linear functions that agree on the bits agree on all bytes. -/
theorem linear_eq (f g : Nat → Nat) (hf : ∀ x y, f (x ^^^ y) = f x ^^^ f y) (hg : ∀ x y, g (x ^^^ y) = g x ^^^ g y) (h : ∀ j : Fin 8, f (2 ^ j.val) = g (2 ^ j.val)) : ∀ x, x < 256 → f x = g x := by
  have f0 : f 0 = 0 := by have := hf 0 0; simp at this; exact this
  have g0 : g 0 = 0 := by have := hg 0 0; simp at this; exact this
  have key : ∀ n, n ≤ 8 → ∀ x, x < 2 ^ n → f x = g x := by
    intro n
    induction n with
    | zero =>
      intro _ x hx
      have : x = 0 := by simpa using hx
      rw [this, f0, g0]
    | succ n ih =>
      intro hn x hx
      by_cases hb : x < 2 ^ n
      · exact ih (by omega) x hb
      · have e : x = (x - 2 ^ n) ^^^ 2 ^ n := by
          have hlt : x - 2 ^ n < 2 ^ n := by rw [Nat.pow_succ] at hx; omega
          have h1 := Nat.two_pow_add_eq_or_of_lt hlt 1
          rw [Nat.mul_one] at h1
          have h2 : (2 ^ n ||| (x - 2 ^ n)) = (x - 2 ^ n) ^^^ 2 ^ n := by
            apply Nat.eq_of_testBit_eq
            intro i
            rw [Nat.testBit_or, Nat.testBit_xor, Nat.testBit_two_pow]
            by_cases hi : n = i
            · subst hi
              rw [Nat.testBit_lt_two_pow hlt]; simp
            · simp [hi]
          omega
        rw [e, hf, hg, ih (by omega) _ (by rw [Nat.pow_succ] at hx; omega), h ⟨n, by omega⟩]
  exact fun x hx => key 8 (by omega) x hx

theorem gmul_comm (a b : Nat) (ha : a < 256) (hb : b < 256) : gmul a b = gmul b a := by
  refine linear_eq (fun x => gmul x b) (fun x => gmul b x) (fun x y => gmul_xor_left x y b) (fun x y => gmul_xor_right b x y) (fun i => ?_) a ha
  refine linear_eq (fun y => gmul (2 ^ i.val) y) (fun y => gmul y (2 ^ i.val)) (fun x y => gmul_xor_right _ x y) (fun x y => gmul_xor_left x y _) (fun j => ?_) b hb
  exact (by decide +kernel : ∀ i j : Fin 8, gmul (2 ^ i.val) (2 ^ j.val) = gmul (2 ^ j.val) (2 ^ i.val)) i j
theorem gmul_assoc (a b c : Nat) (ha : a < 256) (hb : b < 256) (hc : c < 256) : gmul (gmul a b) c = gmul a (gmul b c) := by
  refine linear_eq (fun x => gmul (gmul x b) c) (fun x => gmul x (gmul b c)) (fun x y => by simp only [gmul_xor_left]) (fun x y => gmul_xor_left x y _) (fun i => ?_) a ha
  refine linear_eq (fun y => gmul (gmul (2 ^ i.val) y) c) (fun y => gmul (2 ^ i.val) (gmul y c)) (fun x y => by simp only [gmul_xor_left, gmul_xor_right]) (fun x y => by simp only [gmul_xor_left, gmul_xor_right]) (fun j => ?_) b hb
  refine linear_eq (fun z => gmul (gmul (2 ^ i.val) (2 ^ j.val)) z) (fun z => gmul (2 ^ i.val) (gmul (2 ^ j.val) z)) (fun x y => by simp only [gmul_xor_right]) (fun x y => by simp only [gmul_xor_right]) (fun k => ?_) c hc
  exact (by decide +kernel : ∀ i j k : Fin 8, gmul (gmul (2 ^ i.val) (2 ^ j.val)) (2 ^ k.val) = gmul (2 ^ i.val) (gmul (2 ^ j.val) (2 ^ k.val))) i j k
theorem gmul_one (a : Nat) (ha : a < 256) : gmul a 1 = a :=
  linear_eq (fun x => gmul x 1) (fun x => x) (fun x y => gmul_xor_left x y 1) (fun _ _ => rfl) (by decide +kernel) a ha
theorem gmul_zero_right (a : Nat) : gmul a 0 = 0 := by have := gmul_xor_right a 0 0; simp at this; exact this
theorem gmul_zero_left (a : Nat) : gmul 0 a = 0 := by have := gmul_xor_left 0 0 a; simp at this; exact this

/-! Powers of 2. -/
def pw : Nat → Nat
  | 0 => 1
  | n + 1 => gmul (pw n) 2
theorem pw_lt (n : Nat) : pw n < 256 := by cases n; decide; exact gmul_lt _ _
theorem pw_add (m n : Nat) : gmul (pw m) (pw n) = pw (m + n) := by
  induction n with
  | zero => exact gmul_one _ (pw_lt m)
  | succ n ih => rw [pw, ← gmul_assoc _ _ _ (pw_lt m) (pw_lt n) (by decide), ih]; rfl

/-- The 255 powers, written out. -/
def tbl : List Nat := [1, 2, 4, 8, 16, 32, 64, 128, 29, 58, 116, 232, 205, 135, 19, 38, 76, 152, 45, 90, 180, 117, 234, 201, 143, 3, 6, 12, 24, 48, 96, 192, 157, 39, 78, 156, 37, 74, 148, 53, 106, 212, 181, 119, 238, 193, 159, 35, 70, 140, 5, 10, 20, 40, 80, 160, 93, 186, 105, 210, 185, 111, 222, 161, 95, 190, 97, 194, 153, 47, 94, 188, 101, 202, 137, 15, 30, 60, 120, 240, 253, 231, 211, 187, 107, 214, 177, 127, 254, 225, 223, 163, 91, 182, 113, 226, 217, 175, 67, 134, 17, 34, 68, 136, 13, 26, 52, 104, 208, 189, 103, 206, 129, 31, 62, 124, 248, 237, 199, 147, 59, 118, 236, 197, 151, 51, 102, 204, 133, 23, 46, 92, 184, 109, 218, 169, 79, 158, 33, 66, 132, 21, 42, 84, 168, 77, 154, 41, 82, 164, 85, 170, 73, 146, 57, 114, 228, 213, 183, 115, 230, 209, 191, 99, 198, 145, 63, 126, 252, 229, 215, 179, 123, 246, 241, 255, 227, 219, 171, 75, 150, 49, 98, 196, 149, 55, 110, 220, 165, 87, 174, 65, 130, 25, 50, 100, 200, 141, 7, 14, 28, 56, 112, 224, 221, 167, 83, 166, 81, 162, 89, 178, 121, 242, 249, 239, 195, 155, 43, 86, 172, 69, 138, 9, 18, 36, 72, 144, 61, 122, 244, 245, 247, 243, 251, 235, 203, 139, 11, 22, 44, 88, 176, 125, 250, 233, 207, 131, 27, 54, 108, 216, 173, 71, 142]
theorem tbl_length : tbl.length = 255 := by decide +kernel
theorem tbl_step : ∀ i : Fin 254, gmul (tbl.getD i.val 0) 2 = tbl.getD (i.val + 1) 0 := by decide +kernel
theorem tbl_get (i : Nat) (h : i < 255) : tbl.getD i 0 = pw i := by
  induction i with
  | zero => rfl
  | succ i ih => rw [pw, ← ih (by omega)]; exact (tbl_step ⟨i, by omega⟩).symm
theorem tbl_nodup : tbl.Nodup ∧ 0 ∉ tbl := by decide +kernel
theorem pw_255 : pw 255 = 1 := by
  rw [show pw 255 = gmul (pw 254) 2 from rfl, ← tbl_get 254 (by decide)]
  decide +kernel
theorem pw_period (n : Nat) : pw (n + 255) = pw n := by rw [← pw_add, pw_255]; exact gmul_one _ (pw_lt n)
theorem pw_mod (n : Nat) : pw (n % 255) = pw n := by
  induction n using Nat.strongRecOn with
  | _ n ih =>
    by_cases h : n < 255
    · rw [Nat.mod_eq_of_lt h]
    · have h1 := ih (n - 255) (by omega)
      have h2 := pw_period (n - 255)
      rw [show n - 255 + 255 = n by omega] at h2
      rw [show n % 255 = (n - 255) % 255 by omega, h1, h2]
theorem tbl_at (i : Nat) (h : i < 255) : tbl[i]? = some (pw i) := by
  have g := tbl_get i h
  rw [List.getD_eq_getElem?_getD, List.getElem?_eq_getElem (by rw [tbl_length]; exact h)] at g
  rw [List.getElem?_eq_getElem (by rw [tbl_length]; exact h), ← g]; rfl
theorem pw_inj (i j : Nat) (hi : i < 255) (hj : j < 255) (h : pw i = pw j) : i = j := by
  have gi := tbl_at i hi
  have gj := tbl_at j hj
  rw [List.getElem?_eq_getElem (by rw [tbl_length]; exact hi), Option.some.injEq] at gi
  rw [List.getElem?_eq_getElem (by rw [tbl_length]; exact hj), Option.some.injEq] at gj
  exact (List.getElem_inj tbl_nodup.1).1 (by rw [gi, gj, h])
theorem pw_ne (i : Nat) : pw i ≠ 0 := by
  intro h
  rw [← pw_mod] at h
  have g := tbl_at (i % 255) (Nat.mod_lt _ (by decide))
  rw [h] at g
  exact tbl_nodup.2 (List.mem_of_getElem? g)
theorem pw_onto (a : Nat) (h0 : a ≠ 0) (h : a < 256) : ∃ i, i < 255 ∧ pw i = a := by
  have hm : ∀ a : Fin 256, a.val ≠ 0 → a.val ∈ tbl := by decide +kernel
  obtain ⟨i, hi, e⟩ := List.getElem_of_mem (hm ⟨a, h⟩ h0)
  have hi' : i < 255 := by rw [tbl_length] at hi; exact hi
  have g := tbl_at i hi'
  rw [List.getElem?_eq_getElem hi, Option.some.injEq] at g
  exact ⟨i, hi', by rw [← g]; exact e⟩

/-- The logarithm of an element, as the tables have it after so many powers. -/
def lgTo : Nat → Nat → Nat
  | 0, _ => 0
  | i + 1, v => if pw i = v then i else lgTo i v
theorem lgTo_pw (n i : Nat) (hn : n ≤ 255) (hi : i < n) : lgTo n (pw i) = i := by
  induction n with
  | zero => omega
  | succ n ih =>
    simp only [lgTo]
    by_cases h : n = i
    · subst h; rw [if_pos rfl]
    · rw [if_neg (fun e => h (pw_inj n i (by omega) (by omega) e)), ih (by omega) (by omega)]
def lg (a : Nat) : Nat := lgTo 255 a
theorem lg_pw (i : Nat) (h : i < 255) : lg (pw i) = i := lgTo_pw 255 i (Nat.le_refl _) h
theorem pw_lg (a : Nat) (h0 : a ≠ 0) (h : a < 256) : pw (lg a) = a := by
  obtain ⟨i, hi, rfl⟩ := pw_onto a h0 h
  rw [lg_pw i hi]
theorem lgTo_lt (n a : Nat) (h : 0 < n) : lgTo n a < n := by
  induction n with
  | zero => omega
  | succ n ih =>
    simp only [lgTo]
    split
    · omega
    · cases n with
      | zero => simp [lgTo]
      | succ n => have := ih (by omega); omega
theorem lg_lt (a : Nat) : lg a < 255 := lgTo_lt 255 a (by decide)
/-- The quotient. -/
def gdiv (a b : Nat) : Nat := if a = 0 then 0 else pw (lg a + 255 - lg b)
theorem gdiv_lt (a b : Nat) : gdiv a b < 256 := by unfold gdiv; split; decide; exact pw_lt _
theorem gmul_gdiv (a b : Nat) (ha : a < 256) (hb : b < 256) (h0 : b ≠ 0) : gmul (gdiv a b) b = a := by
  unfold gdiv
  by_cases h : a = 0
  · rw [if_pos h, gmul_zero_left, h]
  · rw [if_neg h]
    have hl := lg_lt a
    have hb' := lg_lt b
    conv => lhs; rw [← pw_lg b h0 hb]
    rw [lg_pw _ hb', pw_add, show lg a + 255 - lg b + lg b = lg a + 255 by omega, pw_period, pw_lg a h ha]
theorem gmul_eq_zero (a b : Nat) (ha : a < 256) (hb : b < 256) (h0 : b ≠ 0) (h : gmul a b = 0) : a = 0 := by
  by_cases h1 : a = 0
  · exact h1
  · exfalso
    rw [← pw_lg a h1 ha, ← pw_lg b h0 hb, pw_add] at h
    exact pw_ne _ h
/-- What times b is a, is the quotient. -/
theorem gdiv_unique (a b x : Nat) (ha : a < 256) (hb : b < 256) (hx : x < 256) (h0 : b ≠ 0) (h : gmul x b = a) : x = gdiv a b := by
  have h1 := gmul_gdiv a b ha hb h0
  have h2 : gmul (x ^^^ gdiv a b) b = 0 := by rw [gmul_xor_left, h, h1, Nat.xor_self]
  have hlt : x ^^^ gdiv a b < 256 := Nat.xor_lt_two_pow (n := 8) hx (gdiv_lt a b)
  have h3 := gmul_eq_zero _ b hlt hb h0 h2
  have := congrArg (· ^^^ gdiv a b) h3
  simpa [Nat.xor_assoc] using this
end Go.Proofs.Ytgojbngdncligaa.Gmul
