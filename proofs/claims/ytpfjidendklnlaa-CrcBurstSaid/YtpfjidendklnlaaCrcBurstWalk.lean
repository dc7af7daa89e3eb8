/- CrcBurst: if bits that stand within 32 places of one another are turned, the sum is another one; walked. -/
import Derived.Test.YtpfjidendklnlaaCrcWakes
import Derived.Test.YtpfjidendklnlaaCrcNum
import Derived.Deep.DeepCutAuto
import Derived.Deep.CutBlock
import Derived.Laws.IdiomStrings
import Derived.Lib.SlBytesRow
namespace Go.Proofs.Ytpfjidendklnlaa.CrcBurstW
open Go.RowKit Go.Proofs.Ytpfjidendklnlaa.Mem Go.Proofs.Ytpfjidendklnlaa.CrcA Go.Proofs.Ytpfjidendklnlaa.CrcS Go.Proofs.Ytpfjidendklnlaa.Crc Go.Proofs.Ytpfjidendklnlaa.Bits
open Go.Lib (Bytes run_convert_whole)
open Go.Proofs.YtpfjidendklnlaaW.PrintWords hiding bt
set_option linter.unusedVariables false
set_option linter.unusedSimpArgs false

/-- Bytes in a block, each to be written. -/
def Bs (w : World) (b : Nat) (l : List Nat) : Prop := ∀ i v, l[i]? = some v → w.cell? ⟨b, i, none⟩ = some (.int .u8 (v : Nat)) ∧ w.frozen? ⟨b, i, none⟩ = false
theorem Bs.set {w : World} {b : Nat} {l : List Nat} (h : Bs w b l) (j v u : Nat) (hj : l[j]? = some u) : Bs (w.setCell ⟨b, j, none⟩ (.int .u8 (v : Nat))) b (l.set j v) := by
  intro i x hx
  by_cases hij : j = i
  · subst hij
    rw [List.getElem?_set_self (List.getElem?_eq_some_iff.1 hj).1] at hx
    obtain rfl := Option.some.inj hx
    exact ⟨World.cell?_setCell_same _ _ _ (h j u hj).1, by rw [World.frozen?_setCell]; exact (h j u hj).2⟩
  · rw [List.getElem?_set_ne hij] at hx
    refine ⟨?_, by rw [World.frozen?_setCell]; exact (h i x hx).2⟩
    rw [World.cell?_setCell_other _ _ _ _ (by intro e; exact hij (by injection e))]
    exact (h i x hx).1
theorem Bs.drew {w : World} {b : Nat} {l : List Nat} (h : Bs w b l) : Bs w.drew b l := h
theorem bytes_new (w : World) (s : ByteArray) (cap : Nat) (e : TypeId) : Bs (w.drew.alloc (.cells (bytesRow s cap) e ((bytesRow s cap).size, (bytesRow s cap).size + 1))) w.heap.size (by8 s) := by
  intro i v hv
  have hi : i < s.size := by have := (List.getElem?_eq_some_iff.1 hv).1; rw [by8_length] at this; exact this
  have hh : (w.drew.alloc (.cells (bytesRow s cap) e ((bytesRow s cap).size, (bytesRow s cap).size + 1))).heap[w.heap.size]? = some (.cells (bytesRow s cap) e ((bytesRow s cap).size, (bytesRow s cap).size + 1)) := heap_alloc_new w.drew _
  have hsz : i < (bytesRow s cap).size := by unfold bytesRow; rw [Array.size_append, Array.size_map]; have : s.data.size = s.size := rfl; omega
  constructor
  · simp only [World.cell?, hh]
    have hd : i < s.data.size := hi
    have e1 : (bytesRow s cap)[i]? = some (Value.int .u8 (s.data[i].toNat)) := by
      unfold bytesRow
      rw [Array.getElem?_append_left (by rw [Array.size_map]; exact hd), Array.getElem?_map, Array.getElem?_eq_getElem hd]; rfl
    rw [e1]
    have e2 : (by8 s)[i]? = some (s.data[i].toNat) := by
      unfold by8
      rw [List.getElem?_map, Array.getElem?_toList, Array.getElem?_eq_getElem hd]; rfl
    rw [e2] at hv
    rw [Option.some.inj hv]
    rfl
  · simp only [World.frozen?, hh]
    simp; omega
/-- A text of these bytes. -/
def txt (l : List Nat) : ByteArray := ⟨(l.map UInt8.ofNat).toArray⟩
theorem txt_size (l : List Nat) : (txt l).size = l.length := by simp [txt, ByteArray.size]
theorem txt_by8 (l : List Nat) (h : ∀ b ∈ l, b < 256) : by8 (txt l) = l := by
  unfold by8 txt
  simp only [List.map_map]
  conv => rhs; rw [← List.map_id l]
  apply List.map_congr_left
  intro x hx
  simp [UInt8.toNat_ofNat', Nat.mod_eq_of_lt (h x hx)]
theorem Bs.bytes {w : World} {b : Nat} {l : List Nat} (h : Bs w b l) (hl : ∀ x ∈ l, x < 256) : Bytes w b 0 (txt l) := by
  intro i hi
  rw [txt_size] at hi
  rw [Nat.zero_add]
  have h1 := (h i _ (List.getElem?_eq_getElem hi)).1
  rw [h1]
  have h2 : by8 (txt l) = l := txt_by8 l hl
  obtain ⟨v, _, h3, h4⟩ := by8_at (txt l) i (by rw [txt_size]; exact hi)
  rw [h2, List.getElem?_eq_getElem hi] at h4
  rw [Option.some.inj h4, ← h3 (by rw [txt_size]; exact hi)]

set_option maxHeartbeats 4000000 in
set_option maxRecDepth 100000 in
theorem walk (a0 : ByteArray) (a1 a2 : Int) (w : World) (f0 : a0.size ≤ maxLen) (f1 : (Lit.int .i64 a1).wf = true) (f2 : (Lit.int .u32 a2).wf = true) :
    Calls Try.prog 6 #[.string a0, .int .i64 a1, .int .u32 a2] w fun e w' => e = .returned (.bool true) ∧ Below w.heap.size w w' := by
  obtain ⟨y, rfl, hy⟩ := wf_u32 f2
  have hs : a0.size ≤ 9223372036854775807 := by unfold maxLen at f0; omega
  clear f0 f2
  go_enter Try.func6, Try.ntmps6
  go_wp2_with fail
  refine (wakes_calls _).mono ?_
  rintro e w1 ⟨rfl, h1, b1⟩
  go_upto_region 2 with fail
  go_cut [0] (fun s0 wx => ∃ t : ByteArray, t.size ≤ 300 ∧ s0 = .string t ∧ w1 = wx)
  case first =>
    by_cases h5 : 300 < a0.size
    · have d5 : decide ((300 : Int) < (a0.size : Int)) = true := decide_eq_true (by omega)
      go_wp2
      go_meet
      case rel => exact ⟨_, by rw [ByteArray.size_extract]; omega, rfl, rfl⟩
    · have d5 : decide ((300 : Int) < (a0.size : Int)) = false := decide_eq_false (by omega)
      go_wp2
      go_meet
      case rel => exact ⟨_, by first | omega | (rw [ByteArray.size_extract]; omega), rfl, rfl⟩
  case rest =>
    obtain ⟨t, ht, rfl, rfl⟩ := hcut
    by_cases h4 : t.size < 4
    · have d4 : decide ((t.size : Int) < 4) = true := decide_eq_true (by omega)
      go_wp2_with fail
      go_ret
      exact ⟨rfl, b1⟩
    · have d4 : decide ((t.size : Int) < 4) = false := decide_eq_false (by omega)
      have hcv := run_bytes_of_string (P := Try.prog) w1 9 31 5 t (by kernel_rfl) (by kernel_rfl) (by kernel_rfl)
      obtain ⟨cap, hcap⟩ : ∃ cap, cap = grownCap w1 t.size 0 5 := ⟨_, rfl⟩
      obtain ⟨w2, hw2⟩ : ∃ w2, w2 = (w1.drew.alloc (.cells (bytesRow t cap) 5 ((bytesRow t cap).size, (bytesRow t cap).size + 1))) := ⟨_, rfl⟩
      rw [← hcap, ← hw2] at hcv
      have hB : Bs w2 w1.heap.size (by8 t) := by rw [hw2]; exact bytes_new w1 t cap 5
      have b2 : Below w.heap.size w w2 := by rw [hw2]; exact ba (bd1 b1) _
      have h2 : Tab true w2 w.heap.size := by rw [hw2]; exact Blk.alloc (Blk.drew h1) _
      have hbb : w.heap.size ≤ w1.heap.size := b1.size
      have hne : w1.heap.size ≠ w.heap.size := by have := Blk.lt h1; omega
      obtain ⟨b, hb⟩ : ∃ b, b = w.heap.size := ⟨_, rfl⟩
      obtain ⟨c, hc⟩ : ∃ c, c = w1.heap.size := ⟨_, rfl⟩
      rw [← hc] at hcv hB hbb hne
      rw [← hb] at h2 hne ⊢
      have hbe : w.heap.size ≤ b := by omega
      clear hcap hw2 hc hb b1 h1
      go_upto_region 6 with fail
      go_cut [10] (fun s10 wx => ∃ k : Nat, k + 31 < 8 * t.size ∧ s10 = .int .i64 k ∧ w2 = wx)
      case first =>
        go_wp2
        go_meet
        case rel =>
          have hm := Int.emod_nonneg (max 0 a1) (show 8 * (t.size : Int) - 31 ≠ 0 by omega)
          have hl := Int.emod_lt_of_pos (max 0 a1) (show (0 : Int) < 8 * (t.size : Int) - 31 by omega)
          exact ⟨(max 0 a1 % (8 * (t.size : Int) - 31)).toNat, by omega, by rw [Int.toNat_of_nonneg hm], rfl⟩
      case rest =>
        obtain ⟨k, hk, rfl, rfl⟩ := hcut
        go_wp2
        go_loopw [34] (fun i wr => ∃ (j : Nat) (l : List Nat), j ≤ 32 ∧ i = .int .i64 j ∧ Hid (num l = num (by8 t) ^^^ 2 ^ k * (y % 2 ^ j)) ∧ Hid (l.length = t.size ∧ ∀ x ∈ l, x < 256) ∧ Bs wr c l ∧ Tab true wr b ∧ Below w.heap.size w wr) (fun i _ => 32 - (intOf i).toNat)
        case atStart => exact ⟨0, by8 t, by omega, rfl, Lib.hid (by rw [Nat.pow_zero, Nat.mod_one, Nat.mul_zero, Nat.xor_zero]), Lib.hid ⟨by8_length t, by8_lt t⟩, hB, h2, b2⟩
        case round =>
          clear hB h2 b2 hcv
          obtain ⟨j, l, hj, rfl, HN, HL, hB, h2, b2⟩ := hrel
          by_cases hlt : j < 32
          · have dlt : decide ((j : Int) < 32) = true := decide_eq_true (by omega)
            have hodd := odd_u32 (y / 2 ^ j) (Nat.lt_of_le_of_lt (Nat.div_le_self _ _) hy)
            rw [half_bit, show ((y / 2 ^ j : Nat) : Int) = (y : Int) / 2 ^ j by simp] at hodd
            have hnext := mod_next_xor y j
            cases hbit : y.testBit j with
            | false =>
              rw [hbit] at hodd hnext
              simp only [Bool.false_eq_true, if_false, Nat.xor_zero] at hodd hnext
              have HX := Lib.hid hnext
              clear hnext hbit
              go_wp2
              exact ⟨⟨j + 1, l, by omega, by go_num, Lib.hid (by rw [HX.out]; exact HN.out), HL, hB, h2, b2⟩, by simp [intOf]; omega⟩
            | true =>
              rw [hbit] at hodd hnext
              simp only [if_true] at hodd hnext
              obtain ⟨q, hq⟩ : ∃ q : Nat, q = (k + j) / 8 := ⟨_, rfl⟩
              obtain ⟨r, hr⟩ : ∃ r : Nat, r = (k + j) % 8 := ⟨_, rfl⟩
              have hq1 : q < t.size := by omega
              obtain ⟨v, hv⟩ : ∃ v, l[q]? = some v := ⟨_, List.getElem?_eq_getElem (by rw [HL.out.1]; exact hq1)⟩
              have hv8 : v < 256 := HL.out.2 v (List.mem_of_getElem? hv)
              have c1 := (hB q v hv).1
              have f1 := (hB q v hv).2
              have i1 : ((k : Int) + (j : Int)) / 8 = (q : Int) := by omega
              have i2 : ((k : Int) + (j : Int)) % 8 = (r : Int) := by omega
              have i3 : (0 : Int) ≤ (q : Int) := by omega
              have i4 : (q : Int) < (t.size : Int) := by omega
              have hr8 : r < 8 := by omega
              have h2r : 2 ^ r < 256 := Nat.lt_of_lt_of_le (Nat.pow_lt_pow_right (by decide) hr8) (by decide)
              have hx : Go.bits .xor .u8 (v : Int) (2 ^ r % 256) = ((v ^^^ 2 ^ r : Nat) : Int) := by
                have e : (2 : Int) ^ r % 256 = ((2 ^ r : Nat) : Int) := by
                  have e1 : ((2 ^ r : Nat) : Int) = (2 : Int) ^ r := by simp
                  rw [← e1]
                  generalize 2 ^ r = z at h2r ⊢
                  omega
                rw [e, xor_u8 v (2 ^ r) hv8 h2r]
              have hvx : v ^^^ 2 ^ r < 256 := Nat.xor_lt_two_pow (n := 8) hv8 h2r
              have HX := Lib.hid (And.intro hnext (And.intro hv (And.intro hq hr)))
              clear h2r
              clear hnext hbit hv hq hr
              go_wp2
              go_region
              have hB2 := (hB.set q (v ^^^ 2 ^ r) v HX.out.2.1).drew
              have hnum : num (l.set q (v ^^^ 2 ^ r)) = num (by8 t) ^^^ 2 ^ k * (y % 2 ^ (j + 1)) := by
                rw [num_set r l q v HX.out.2.1, HN.out, HX.out.1, mul_pow_xor, ← Nat.pow_add, Nat.xor_assoc]
                congr 3
                have := HX.out.2.2
                omega
              have hall : ∀ x ∈ l.set q (v ^^^ 2 ^ r), x < 256 := fun x hx => by
                rcases List.mem_or_eq_of_mem_set hx with h | h
                · exact HL.out.2 x h
                · omega
              have hlen : (l.set q (v ^^^ 2 ^ r)).length = t.size := by rw [List.length_set]; exact HL.out.1
              have h22 : Tab true (wr.setCell ⟨c, q, none⟩ (.int .u8 (v ^^^ 2 ^ r : Nat))).drew b := (Blk.setOther h2 (p := ⟨c, q, none⟩) hne _).drew
              have b22 : Below w.heap.size w (wr.setCell ⟨c, q, none⟩ (.int .u8 (v ^^^ 2 ^ r : Nat))).drew := bd1 (bs b2 (p := ⟨c, q, none⟩) hbb _)
              have HF := Lib.hid (And.intro hnum (And.intro hlen hall))
              clear hnum hlen hall
              go_wp2
              go_roundw
              case measure => simp [intOf]; omega
              case rel => exact ⟨j + 1, _, by omega, by go_num, Lib.hid HF.out.1, Lib.hid HF.out.2, hB2, h22, b22⟩
          · obtain rfl : j = 32 := by omega
            have hcv := run_convert_whole (P := Try.prog) wr 31 5 9 (by kernel_rfl) (by kernel_rfl) (by kernel_rfl) c 0 (txt l) (hB.bytes HL.out.2) cap
            rw [txt_size, HL.out.1] at hcv
            have hts : (txt l).size ≤ 9223372036854775807 := by rw [txt_size, HL.out.1]; omega
            have hiff : CrcA.sum (by8 (txt l)) = CrcA.sum (by8 t) ↔ y = 0 := by
              rw [txt_by8 l HL.out.2]
              exact burst _ _ y k (by rw [HL.out.1, by8_length]) (by rw [by8_length]; omega) hy (by rw [HN.out, Nat.mod_eq_of_lt (by omega)])
            obtain ⟨s', hs'⟩ : ∃ s', s' = CrcA.sum (by8 (txt l)) := ⟨_, rfl⟩
            obtain ⟨s, hs⟩ : ∃ s, s = CrcA.sum (by8 t) := ⟨_, rfl⟩
            rw [← hs', ← hs] at hiff
            have c1 := Lib.hid (Crc.sum_calls b true (txt l) hts wr h2)
            rw [← hs'] at c1
            have c2 : Hid (∀ wx, Tab true wx b → Calls Try.prog 16 #[.pointer (some ⟨b, 0, none⟩), .string t] wx fun e w' => e = .returned (.int .u32 (s : Nat)) ∧ (Tab true w' b ∧ Keep (· = b) wx w')) := Lib.hid (fun wx h => by rw [hs]; exact Crc.sum_calls b true t (by omega) wx h)
            clear hs hs' hts
            obtain ⟨x, hx⟩ : ∃ x, x = txt l := ⟨_, rfl⟩
            rw [← hx] at hcv c1
            clear hx HN HL hB
            by_cases hy0 : y = 0
            · subst hy0
              obtain rfl := hiff.2 rfl
              clear hiff
              go_wp2_with fail
              refine c1.out.mono ?_
              rintro e w3 ⟨rfl, h3, k3⟩
              go_wp2_with fail
              refine (c2.out _ h3).mono ?_
              rintro e w4 ⟨rfl, h4, k4⟩
              go_wp2
              go_ret
              exact ⟨rfl, bk (bk b2 k3 hbe) k4 hbe⟩
            · have q1 : ((s' : Int) == (s : Int)) = false := beq_eq_false_iff_ne.2 (fun e => hy0 (hiff.1 (by omega)))
              have q2 : ((y : Int) == 0) = false := beq_eq_false_iff_ne.2 (by omega)
              clear hiff
              go_wp2_with fail
              refine c1.out.mono ?_
              rintro e w3 ⟨rfl, h3, k3⟩
              go_wp2_with fail
              refine (c2.out _ h3).mono ?_
              rintro e w4 ⟨rfl, h4, k4⟩
              go_wp2
              go_ret
              exact ⟨rfl, bk (bk b2 k3 hbe) k4 hbe⟩
end Go.Proofs.Ytpfjidendklnlaa.CrcBurstW
