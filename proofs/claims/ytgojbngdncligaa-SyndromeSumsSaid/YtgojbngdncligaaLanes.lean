/- lanes walked: each byte doubled, times an element; loaded from a text, and a text again. -/
import Derived.Test.YtgojbngdncligaaLanesAlg
import Derived.Test.YtgojbngdncligaaBits
import Derived.Test.YtgojbngdncligaaMany
import Derived.WalkKit
import Derived.KernelRfl
import Derived.Deep.LoopGhost
import Derived.Deep.QuietTactic
import Derived.BigQuiet
import Derived.Laws.IdiomStrings
import Derived.Test.YtgojbngdncligaaProg
import Derived.Test.YtgojbngdncligaaWWords
namespace Go.Proofs.Ytgojbngdncligaa.Lanes
open Go.RowKit Go.Proofs.Ytgojbngdncligaa.Mem Go.Proofs.Ytgojbngdncligaa.Gmul Go.Proofs.Ytgojbngdncligaa.LanesA Go.Proofs.Ytgojbngdncligaa.Bits
open Go.Proofs.YtgojbngdncligaaW.PrintWords hiding bt
set_option linter.unusedVariables false
set_option linter.unusedSimpArgs false

/-- A string's bytes. -/
def by8 (s : ByteArray) : List Nat := s.data.toList.map UInt8.toNat
theorem by8_length (s : ByteArray) : (by8 s).length = s.size := by simp [by8]
theorem by8_lt (s : ByteArray) : ∀ b ∈ by8 s, b < 256 := by
  intro b hb
  simp only [by8, List.mem_map] at hb
  obtain ⟨x, _, rfl⟩ := hb
  exact x.toNat_lt
theorem by8_at (s : ByteArray) (k : Nat) (h : k < s.size) : ∃ b : Nat, b < 256 ∧ (∀ h : k < s.size, ((s[k]'h).toNat : Int) = (b : Int)) ∧ (by8 s)[k]? = some b := by
  refine ⟨(s[k]'h).toNat, UInt8.toNat_lt _, fun _ => rfl, ?_⟩
  · have h' : k < s.data.toList.length := by simpa using h
    simp [by8, List.getElem?_map, List.getElem?_eq_getElem h']
    rfl
theorem by8_inj {s t : ByteArray} (h : by8 s = by8 t) : s = t := by
  unfold by8 at h
  have h2 := (List.map_inj_right (fun a b e => UInt8.toNat_inj.1 e)).1 h
  exact ByteArray.ext (Array.toList_inj.1 h2)
/-- A text of these bytes. -/
def txt (l : List Nat) : ByteArray := ⟨(l.map UInt8.ofNat).toArray⟩
theorem txt_size (l : List Nat) : (txt l).size = l.length := by simp [txt, ByteArray.size]
theorem txt_by8 (l : List Nat) (h : ∀ b ∈ l, b < 256) : by8 (txt l) = l := by
  unfold by8 txt
  simp only [List.map_map]
  conv => rhs; rw [← List.map_id l]
  apply List.map_congr_left
  intro x hx
  simp [UInt8.toNat_ofNat', Nat.mod_eq_of_lt (h x hx)]
theorem by8_txt (s : ByteArray) : txt (by8 s) = s := by8_inj (txt_by8 _ (by8_lt s))

attribute [local irreducible] wd gmul

theorem andNot_tops (x : Nat) (hx : x < 18446744073709551616) : Go.bits .andNot .u64 x 9259542123273814144 = ((x &&& 9187201950435737471 : Nat) : Int) := by
  have e : Go.bits .andNot .u64 x 9259542123273814144 = Go.bits .and .u64 x 9187201950435737471 := by
    have h : ~~~(BitVec.ofInt 64 9259542123273814144) = BitVec.ofInt 64 9187201950435737471 := by decide
    unfold Go.bits
    show IntKind.u64.wrap ((BitVec.ofInt 64 (x : Int) &&& ~~~(BitVec.ofInt 64 9259542123273814144)).toNat : Int) = IntKind.u64.wrap ((BitVec.ofInt 64 (x : Int) &&& BitVec.ofInt 64 9187201950435737471).toNat : Int)
    rw [h]
  rw [e]; exact and_u64 x 9187201950435737471 hx (by decide)

theorem each7_calls (x : Nat) (hx : x < 18446744073709551616) (w : World) :
    Calls Try.prog 49 #[.int .u64 x, .int .i64 7] w fun e w' => e = .returned (.int .u64 ((x / 128) &&& 72340172838076673 : Nat)) ∧ Drawn0 w w' := by
  have ha := and_u64 (x / 128) 72340172838076673 (by omega) (by decide)
  have ha' : Go.bits .and .u64 ((x : Int) / 128) 72340172838076673 = (((x / 128) &&& 72340172838076673 : Nat) : Int) := ha
  clear ha
  go_enter Try.func49, Try.ntmps49
  go_wp2
  go_ret
  exact ⟨rfl, by first | exact Drawn0.refl _ | exact ⟨_, rfl⟩⟩

/-- Eight bytes. -/
def Eight (l : List Nat) : Prop := l.length = 8 ∧ ∀ b ∈ l, b < 256
theorem Eight.lt {l : List Nat} (h : Eight l) : wd l < 18446744073709551616 := wd_lt8 l h.1 h.2
theorem Eight.map {l : List Nat} (h : Eight l) (c : Nat) : Eight (l.map (gmul · c)) := ⟨by rw [List.length_map]; exact h.1, fun b hb => by
  obtain ⟨x, _, rfl⟩ := List.mem_map.1 hb
  exact gmul_lt _ _⟩
theorem twice_word (l : List Nat) (h : Eight l) : ((wd l &&& 9187201950435737471) * 2) ^^^ (((wd l / 128) &&& 72340172838076673) * 29) = wd (l.map (gmul · 2)) := by
  have := wd_twice l h.2
  rw [h.1, sevens8, ones8] at this
  exact this

set_option maxHeartbeats 1000000 in
set_option maxRecDepth 100000 in
theorem twice_calls (l : List Nat) (h : Eight l) (w : World) :
    Calls Try.prog 44 #[.int .u64 (wd l : Nat)] w fun e w' => e = .returned (.int .u64 (wd (l.map (gmul · 2)) : Nat)) ∧ Drawn0 w w' := by
  have hx := h.lt
  have ht := twice_word l h
  obtain ⟨y, hy⟩ : ∃ y, y = wd (l.map (gmul · 2)) := ⟨_, rfl⟩
  rw [← hy] at ht ⊢
  clear hy
  generalize wd l = x at hx ht ⊢
  have h1 := andNot_tops x hx
  obtain ⟨p, hp⟩ : ∃ p, p = x &&& 9187201950435737471 := ⟨_, rfl⟩
  obtain ⟨q, hq⟩ : ∃ q, q = (x / 128) &&& 72340172838076673 := ⟨_, rfl⟩
  have hp1 : p ≤ 9187201950435737471 := by rw [hp]; exact Nat.and_le_right
  have hq1 : q ≤ 72340172838076673 := by rw [hq]; exact Nat.and_le_right
  have hc := each7_calls x hx
  rw [← hp] at h1 ht
  rw [← hq] at ht
  have HC := Lib.hid hc
  rw [← hq] at HC
  have h2 := xor_u64 (p * 2) (q * 29) (by omega) (by omega)
  rw [ht] at h2
  have h3 : Go.bits .xor .u64 ((p : Int) * 2) ((q : Int) * 29) = (y : Int) := h2
  clear hp hq hc ht h2
  go_enter Try.func44, Try.ntmps44
  go_wp2_with fail
  refine (HC.out _).mono ?_
  rintro e w1 ⟨rfl, ⟨nd, rfl⟩⟩
  go_wp2
  go_ret
  exact ⟨rfl, ⟨_, rfl⟩⟩

theorem pw_two : ∀ k : Fin 8, pw k.val = 2 ^ k.val := by decide +kernel
theorem map_pw (l : List Nat) (h : Eight l) (k : Nat) : (l.map (gmul · (pw k))).map (gmul · 2) = l.map (gmul · (pw (k + 1))) := by
  rw [List.map_map]
  apply List.map_congr_left
  intro x hx
  show gmul (gmul x (pw k)) 2 = gmul x (pw (k + 1))
  rw [gmul_assoc x (pw k) 2 (h.2 x hx) (pw_lt k) (by decide)]
  rfl
theorem map_one (l : List Nat) (h : Eight l) : l.map (gmul · (pw 0)) = l := by
  conv => rhs; rw [← List.map_id l]
  apply List.map_congr_left
  intro x hx
  show gmul x (pw 0) = x
  exact gmul_one x (h.2 x hx)
theorem map_none (l : List Nat) (h : Eight l) : wd (l.map (gmul · 0)) = 0 := by
  have e : ∀ m : List Nat, wd (m.map (gmul · 0)) = 0 := by
    intro m
    induction m with
    | nil => unfold wd; rfl
    | cons b m ih => unfold wd; simp only [List.map_cons]; rw [gmul_zero_right]; rw [ih]
  exact e l
theorem map_add (l : List Nat) (h : Eight l) (c d : Nat) : wd (l.map (gmul · c)) ^^^ wd (l.map (gmul · d)) = wd (l.map (gmul · (c ^^^ d))) := by
  rw [wd_xor _ _ (by simp) (h.map c).2 (h.map d).2]
  congr 1
  rw [List.zipWith_map_left, List.zipWith_map_right, List.zipWith_self]
  apply List.map_congr_left
  intro x _
  show gmul x c ^^^ gmul x d = gmul x (c ^^^ d)
  rw [gmul_xor_right]
theorem mod_next_xor (y n : Nat) : y % 2 ^ (n + 1) = (y % 2 ^ n) ^^^ (if y / 2 ^ n % 2 = 1 then 2 ^ n else 0) := by
  apply Nat.eq_of_testBit_eq
  intro i
  rw [Nat.testBit_xor, Nat.testBit_mod_two_pow, Nat.testBit_mod_two_pow]
  have hb : y.testBit n = decide (y / 2 ^ n % 2 = 1) := Nat.testBit_eq_decide_div_mod_eq
  have e2 : (if y / 2 ^ n % 2 = 1 then 2 ^ n else 0 : Nat).testBit i = (decide (n = i) && y.testBit i) := by
    by_cases hy : y / 2 ^ n % 2 = 1
    · rw [if_pos hy, Nat.testBit_two_pow]
      by_cases h : n = i
      · subst h; rw [hb]; simp [hy]
      · simp [h]
    · rw [if_neg hy]
      by_cases h : n = i
      · subst h; rw [hb]; simp [hy]
      · simp [h]
  rw [e2]
  by_cases h1 : i = n
  · subst h1; simp
  · by_cases h2 : i < n
    · have : i < n + 1 := by omega
      simp [h2, this, Ne.symm h1]
    · have : ¬ i < n + 1 := by omega
      simp [h2, this, Ne.symm h1]

set_option maxHeartbeats 4000000 in
set_option maxRecDepth 100000 in
theorem times_calls (l : List Nat) (h : Eight l) (c : Nat) (hc : c < 256) (w : World) :
    Calls Try.prog 40 #[.int .u64 (wd l : Nat), .int .u8 c] w fun e w' => e = .returned (.int .u64 (wd (l.map (gmul · c)) : Nat)) ∧ Drawn0 w w' := by
  have H := Lib.hid h
  have hx := h.lt
  clear h
  go_enter Try.func40, Try.ntmps40
  go_wp2
  go_loopw [0, 1, 5] (fun x0 x1 x5 wr => ∃ (k n : Nat) (m : List Nat) (o : Nat), k ≤ 8 ∧ n < 256 ∧ o < 18446744073709551616 ∧ Hid (Eight m) ∧ Hid (n = c / 2 ^ k ∧ m = l.map (gmul · (pw k)) ∧ o = wd (l.map (gmul · (c % 2 ^ k)))) ∧ x0 = .int .u64 (wd m : Nat) ∧ x1 = .int .u8 n ∧ x5 = .int .u64 o ∧ Drawn0 w wr) (fun _ x _ _ => (intOf x).toNat)
  case atStart => exact ⟨0, c, l, 0, by omega, hc, by omega, H, Lib.hid ⟨by simp, (map_one l H.out).symm, by rw [Nat.pow_zero, Nat.mod_one, map_none l H.out]⟩, rfl, rfl, rfl, Drawn0.refl _⟩
  case round =>
    obtain ⟨k, n, m, o, hk, hn, ho, HM, HX, rfl, rfl, rfl, ⟨nd, rfl⟩⟩ := hrel
    by_cases h0 : n = 0
    · subst h0
      have e : wd (l.map (gmul · c)) = o := by
        rw [HX.out.2.2, Nat.mod_eq_of_lt ((Nat.div_eq_zero_iff_lt (Nat.two_pow_pos k)).1 HX.out.1.symm)]
      have E := Lib.hid e
      clear e
      go_wp2
      go_ret
      exact ⟨by rw [E.out]; rfl, ⟨_, rfl⟩⟩
    · have hk8 : k < 8 := by
        rcases Nat.lt_or_ge k 8 with h | h
        · exact h
        · exfalso
          obtain rfl : k = 8 := by omega
          exact h0 (HX.out.1.trans (Nat.div_eq_of_lt (by omega)))
      have q0 : ((n : Int) == 0) = false := beq_eq_false_iff_ne.2 (by omega)
      have q1 : ((n : Int) != 0) = true := bne_iff_ne.2 (by omega)
      have hodd := odd_u8 n hn
      have h2 : n / 2 = c / 2 ^ (k + 1) := by rw [HX.out.1, Nat.div_div_eq_div_mul, Nat.pow_succ]
      have hm2 : m.map (gmul · 2) = l.map (gmul · (pw (k + 1))) := by rw [HX.out.2.1, map_pw l H.out]
      have hmod := mod_next_xor c k
      rw [← HX.out.1] at hmod
      have hml := HM.out.lt
      rcases Nat.mod_two_eq_zero_or_one n with h | h
      · rw [h] at hodd
        rw [if_neg (by omega), Nat.xor_zero] at hmod
        have HY := Lib.hid (And.intro h2 (And.intro hm2 hmod))
        clear h2 hm2 hmod h
        go_wp2_with fail
        refine (twice_calls m HM.out _).mono ?_
        rintro e w1 ⟨rfl, ⟨nd3, rfl⟩⟩
        go_wp2
        go_roundw
        case measure => simp [intOf]; omega
        case rel => exact ⟨k + 1, n / 2, m.map (gmul · 2), o, by omega, by omega, ho, Lib.hid (HM.out.map 2), Lib.hid ⟨HY.out.1, HY.out.2.1, by rw [HY.out.2.2]; exact HX.out.2.2⟩, rfl, by go_num, rfl, by repeat (first | exact ⟨_, rfl⟩ | apply Drawn0.step)⟩
      · rw [h] at hodd
        rw [if_pos h] at hmod
        have hsum : o ^^^ wd m = wd (l.map (gmul · (c % 2 ^ (k + 1)))) := by
          rw [HX.out.2.2, HX.out.2.1, map_add l H.out, hmod, pw_two ⟨k, hk8⟩]
        have hxor := xor_u64 o (wd m) ho hml
        have hlt : o ^^^ wd m < 18446744073709551616 := Nat.xor_lt_two_pow (n := 64) ho hml
        have HY := Lib.hid (And.intro h2 (And.intro hm2 hsum))
        clear h2 hm2 hmod h hsum
        go_wp2_with fail
        refine (twice_calls m HM.out _).mono ?_
        rintro e w1 ⟨rfl, ⟨nd3, rfl⟩⟩
        go_wp2
        go_roundw
        case measure => simp [intOf]; omega
        case rel => exact ⟨k + 1, n / 2, m.map (gmul · 2), o ^^^ wd m, by omega, by omega, hlt, Lib.hid (HM.out.map 2), Lib.hid ⟨HY.out.1, HY.out.2.1, HY.out.2.2⟩, rfl, by go_num, rfl, by repeat (first | exact ⟨_, rfl⟩ | apply Drawn0.step)⟩

/-- Eight bytes of a text from a place on, noughts behind its end. -/
def pad (L : List Nat) (at' : Nat) : List Nat := (List.range 8).map fun i => L.getD (at' + i) 0
theorem pad_length (L : List Nat) (a : Nat) : (pad L a).length = 8 := by simp [pad]
theorem getD_lt (L : List Nat) (h : ∀ b ∈ L, b < 256) (i : Nat) : L.getD i 0 < 256 := by
  rw [List.getD_eq_getElem?_getD]
  by_cases hi : i < L.length
  · rw [List.getElem?_eq_getElem hi]; exact h _ (List.getElem_mem hi)
  · rw [List.getElem?_eq_none (by omega)]; decide
theorem pad_eight (L : List Nat) (h : ∀ b ∈ L, b < 256) (a : Nat) : Eight (pad L a) := ⟨pad_length L a, fun b hb => by
  obtain ⟨i, _, rfl⟩ := List.mem_map.1 hb
  exact getD_lt L h _⟩
theorem pad_take (L : List Nat) (a k : Nat) (hk : k < 8) : (pad L a).take (k + 1) = (pad L a).take k ++ [L.getD (a + k) 0] := by
  rw [List.take_add_one]
  congr 1
  rw [List.getElem?_eq_getElem (by rw [pad_length]; exact hk)]
  simp [pad]
theorem take_lt8 (l : List Nat) (h : Eight l) (k : Nat) : wd (l.take k) < 18446744073709551616 := by
  have h1 := wd_lt (l.take k) (fun b hb => h.2 b (List.mem_of_mem_take hb))
  have h2 : (256 : Nat) ^ (l.take k).length ≤ 256 ^ 8 := Nat.pow_le_pow_right (by decide) (by rw [List.length_take, h.1]; omega)
  exact Nat.lt_of_lt_of_le h1 h2
theorem wd_nil : wd [] = 0 := by unfold wd; rfl

set_option maxHeartbeats 4000000 in
set_option maxRecDepth 100000 in
theorem load_calls (s : ByteArray) (a : Nat) (hs : s.size ≤ 9223372036854775807) (ha : a ≤ 9223372036854775000) (w : World) :
    Calls Try.prog 48 #[.string s, .int .i64 a] w fun e w' => e = .returned (.int .u64 (wd (pad (by8 s) a) : Nat)) ∧ Drawn0 w w' := by
  have HP := Lib.hid (pad_eight (by8 s) (by8_lt s) a)
  go_enter Try.func48, Try.ntmps48
  go_wp2
  go_loopw [5, 7] (fun x5 x7 wr => ∃ k n : Nat, k ≤ 8 ∧ n < 18446744073709551616 ∧ Hid (n = wd ((pad (by8 s) a).take k)) ∧ x5 = .int .u64 n ∧ x7 = .int .i64 k ∧ Drawn0 w wr) (fun _ x _ => 8 - (intOf x).toNat)
  case atStart => exact ⟨0, 0, by omega, by omega, Lib.hid (by rw [List.take_zero, wd_nil]), rfl, rfl, Drawn0.refl _⟩
  case round =>
    obtain ⟨k, n, hk, hn, HN, rfl, rfl, ⟨nd, rfl⟩⟩ := hrel
    by_cases hlt : k < 8
    · have dlt : decide ((k : Int) < 8) = true := decide_eq_true (by omega)
      by_cases hin : a + k < s.size
      · obtain ⟨y, hy, hbt, hb8⟩ := by8_at s (a + k) hin
        have d2 : decide ((a : Int) < (s.size : Int) - (k : Int)) = true := decide_eq_true (by omega)
        have d1 : decide (-(k : Int) ≤ (a : Int)) = true := decide_eq_true (by omega)
        have q6 : ((a : Int) + (k : Int) < (s.size : Int)) = True := eq_true (by omega)
        have hpw : 2 ^ (8 * k) * y < 18446744073709551616 := by
          have h1 : 2 ^ (8 * k) ≤ 2 ^ 56 := Nat.pow_le_pow_right (by decide) (by omega)
          have h2 : 2 ^ (8 * k) * y ≤ 2 ^ 56 * 255 := Nat.mul_le_mul h1 (by omega)
          exact Nat.lt_of_le_of_lt h2 (by decide)
        have hw : IntKind.u64.wrap ((y : Int) * 2 ^ (8 * k)) = ((2 ^ (8 * k) * y : Nat) : Int) := by
          have e : (y : Int) * 2 ^ (8 * k) = ((2 ^ (8 * k) * y : Nat) : Int) := by simp [Int.mul_comm]
          rw [e]; exact wrap_nat .u64 rfl _ hpw
        have hor : Go.bits .or .u64 (n : Int) (IntKind.u64.wrap ((y : Int) * 2 ^ (8 * k))) = ((n ||| (2 ^ (8 * k) * y) : Nat) : Int) := by
          rw [hw]; exact or_u64 n _ hn hpw
        have hnext : n ||| (2 ^ (8 * k) * y) = wd ((pad (by8 s) a).take (k + 1)) := by
          have hl : ((pad (by8 s) a).take k).length = k := by rw [List.length_take, pad_length]; omega
          have hg : (by8 s).getD (a + k) 0 = y := by rw [List.getD_eq_getElem?_getD, hb8]; rfl
          rw [pad_take _ _ _ hlt, hg, ← wd_snoc_or _ _ (fun b hb => HP.out.2 b (List.mem_of_mem_take hb)), hl, HN.out]
        have hlt2 : n ||| (2 ^ (8 * k) * y) < 18446744073709551616 := by rw [hnext]; exact take_lt8 _ HP.out _
        have HX := Lib.hid hnext
        clear hnext hw hpw
        go_wp2
        exact ⟨⟨k + 1, _, by omega, hlt2, Lib.hid HX.out, rfl, by go_num, ⟨_, rfl⟩⟩, by simp [intOf]; omega⟩
      · have d2 : decide ((a : Int) < (s.size : Int) - (k : Int)) = false := decide_eq_false (by omega)
        have d1 : decide (-(k : Int) ≤ (a : Int)) = true := decide_eq_true (by omega)
        have hnext : n = wd ((pad (by8 s) a).take (k + 1)) := by
          have hg : (by8 s).getD (a + k) 0 = 0 := by rw [List.getD_eq_getElem?_getD, List.getElem?_eq_none (by rw [by8_length]; omega)]; rfl
          rw [pad_take _ _ _ hlt, hg, wd_snoc, HN.out, Nat.mul_zero, Nat.add_zero]
        have HX := Lib.hid hnext
        clear hnext
        go_wp2
        exact ⟨⟨k + 1, n, by omega, hn, Lib.hid HX.out, rfl, by go_num, ⟨_, rfl⟩⟩, by simp [intOf]; omega⟩
    · obtain rfl : k = 8 := by omega
      go_wp2
      go_ret
      have e : n = wd (pad (by8 s) a) := by rw [HN.out, List.take_of_length_le (by rw [pad_length]; omega)]
      exact ⟨by rw [← e]; rfl, ⟨_, rfl⟩⟩

/-- The cells of eight bytes, the first k of them written. -/
def outC (l : List Nat) (k : Nat) : Array Value := (((List.range 8).map fun j => if j < k then ((l.getD j 0 : Nat) : Int) else 0).map (Value.int .u8)).toArray
theorem outC_zero (l : List Nat) : outC l 0 = #[.int .u8 0, .int .u8 0, .int .u8 0, .int .u8 0, .int .u8 0, .int .u8 0, .int .u8 0, .int .u8 0] := rfl
theorem outC_at (l : List Nat) (k j : Nat) (h : j < 8) : (outC l k)[j]? = some (.int .u8 (if j < k then ((l.getD j 0 : Nat) : Int) else 0)) := by
  unfold outC
  rw [List.getElem?_toArray, List.getElem?_map, List.getElem?_map, List.getElem?_eq_getElem (by simp; exact h)]
  simp
theorem outC_step (l : List Nat) (k : Nat) : (outC l k).setIfInBounds k (.int .u8 (l.getD k 0 : Nat)) = outC l (k + 1) := by
  unfold outC
  rw [List.setIfInBounds_toArray]
  congr 1
  rw [← List.map_set (f := Value.int .u8)]
  congr 1
  apply List.ext_getElem
  · simp
  · intro n h1 h2
    rw [List.getElem_set]
    simp only [List.getElem_map, List.getElem_range]
    by_cases h : k = n
    · subst h
      rw [if_pos rfl, if_pos (by omega)]
    · rw [if_neg h]
      by_cases h3 : n < k
      · rw [if_pos h3, if_pos (by omega)]
      · rw [if_neg h3, if_neg (by omega)]
attribute [local irreducible] outC

set_option maxHeartbeats 4000000 in
set_option maxRecDepth 100000 in
theorem store_calls (l : List Nat) (h : Eight l) (w : World) :
    Calls Try.prog 47 #[.int .u64 (wd l : Nat)] w fun e w' => e = .returned (.string (txt l)) ∧ Below w.heap.size w w' := by
  have hx := h.lt
  have H := Lib.hid h
  obtain ⟨x, hxx⟩ : ∃ x, x = wd l := ⟨_, rfl⟩
  rw [← hxx] at hx ⊢
  have HX := Lib.hid hxx
  clear h hxx
  go_enter Try.func47, Try.ntmps47
  go_wp2
  have b0 : Blk (w.alloc (.cells (outC l 0) 91)) w.heap.size (outC l 0) 91 := Blk.new _ _ _
  rw [outC_zero] at b0
  go_loopw [5] (fun i wr => ∃ k : Nat, k ≤ 8 ∧ i = .int .i64 k ∧ Blk wr w.heap.size (outC l k) 91 ∧ Below w.heap.size w wr) (fun i _ => 8 - (intOf i).toNat)
  case atStart => exact ⟨0, by omega, rfl, by rw [outC_zero]; exact b0, ba (br _) _⟩
  case round =>
    clear b0
    obtain ⟨k, hk, rfl, hb, hbel⟩ := hrel
    by_cases hlt : k < 8
    · have c1 : wr.cell? ⟨w.heap.size, k, none⟩ = some (.int .u8 (if k < k then ((l.getD k 0 : Nat) : Int) else 0)) := by rw [hb.cell, outC_at _ _ _ hlt]
      have z1 : wr.frozen? ⟨w.heap.size, k, none⟩ = false := hb.frozen _
      have hbyte : (x : Int) / 2 ^ (8 * k) % 256 = ((l.getD k 0 : Nat) : Int) := by
        have e := wd_byte l k H.out.2
        rw [← HX.out, show (256 : Nat) ^ k = 2 ^ (8 * k) by rw [Nat.pow_mul]] at e
        rw [← e]; simp
      have HB := Lib.hid hbyte
      clear hbyte
      go_wp2
      have hs := hb.set k (.int .u8 (l.getD k 0 : Nat))
      rw [outC_step] at hs
      refine ⟨⟨k + 1, by omega, by go_num, ?_, bs hbel (p := ⟨w.heap.size, k, none⟩) (Nat.le_refl _) _⟩, by simp [intOf]; omega⟩
      rw [HB.out]; exact hs
    · obtain rfl : k = 8 := by omega
      have hlm : (l.map UInt8.ofNat).length = 8 := by rw [List.length_map]; exact H.out.1
      have hcv := run_convert_bytes_back (P := Try.prog) wr 41 9 5 ⟨w.heap.size, 0, none⟩ 8 (l.map UInt8.ofNat) (by kernel_rfl) (by kernel_rfl) (by kernel_rfl) (fun j hj => by
        have hj8 : j < 8 := by rw [hlm] at hj; exact hj
        have hjl : j < l.length := by rw [H.out.1]; exact hj8
        rw [Addr.add_mid, Nat.zero_add, hb.cell, outC_at _ _ _ hj8, if_pos hj8, List.getElem_map]
        have h1 : l[j] < 256 := H.out.2 _ (List.getElem_mem hjl)
        have h2 : (UInt8.ofNat l[j]).toNat = l.getD j 0 := by
          rw [List.getD_eq_getElem?_getD, List.getElem?_eq_getElem hjl]
          simp [Nat.mod_eq_of_lt h1]
        rw [h2])
      rw [hlm] at hcv
      have hcv' : (convert 41 9 (.slice (some ⟨w.heap.size, 0, none⟩) 8 8)).run Try.prog wr = .ok (.string (txt l)) wr := hcv
      clear hcv
      obtain ⟨s, hs⟩ : ∃ s, s = txt l := ⟨_, rfl⟩
      rw [← hs] at hcv'
      have HS := Lib.hid hs
      clear hs
      go_wp2
      go_ret
      exact ⟨by rw [← HS.out]; rfl, hbel⟩
end Go.Proofs.Ytgojbngdncligaa.Lanes
