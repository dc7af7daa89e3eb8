/- RingApart: two batches one behind the other have no sector in common, nor their marks; walked. -/
import Derived.Test.YtanaaleojpbfbaaRingWakes
import Derived.Test.YtanaaleojpbfbaaPRAx1
import Derived.Test.YtanaaleojpbfbaaBoolMap
import Derived.Laws.BitsLemmas
namespace Go.Proofs.Ytanaaleojpbfbaa.RingApartW
open Go.RowKit Go.Proofs.Ytanaaleojpbfbaa.Mem Go.Proofs.Ytanaaleojpbfbaa.Sep Go.Proofs.Ytanaaleojpbfbaa.PRA
open Go.Proofs.YtanaaleojpbfbaaW.PrintWords hiding bt
open Go.Maps (int_keyed Keyed)
set_option linter.unusedVariables false
set_option linter.unusedSimpArgs false

theorem wraps_i64 (n : Int) (h0 : 0 ≤ n) (h1 : n < 2 ^ 63) : IntKind.i64.wrap n = n := by rw [IntKind.wrap_i64]; omega
theorem and1 (x : Int) (h0 : 0 ≤ x) (h1 : x < 2 ^ 63) : Go.bits .and .i64 x 1 = x % 2 := bits_mask .i64 63 (by decide) wraps_i64 1 (by decide) x h0 h1
/-- So many numbers from one on. -/
def fromN (a : Int) (n : Nat) : List Int := List.map (fun (i : Nat) => a + (i : Int)) (List.range n)
theorem fromN_at {a : Int} {n i : Nat} {x : Int} (h : (fromN a n)[i]? = some x) : i < n ∧ x = a + i := by
  unfold fromN at h
  by_cases hi : i < n
  · rw [List.getElem?_map, List.getElem?_range hi] at h
    exact ⟨hi, by simpa using h.symm⟩
  · have := (List.getElem?_eq_some_iff.1 h).1
    simp at this
    omega
theorem fromN_length (a : Int) (n : Nat) : (fromN a n).length = n := by unfold fromN; simp
theorem places_small : ∀ n : Fin 49, ring_Places.l0 60 4 [] n.val 0 = some (fromN 4 n.val, 0) ∧ ring_Places.l0 60 52 [] n.val 0 = some (fromN 52 n.val, 0) := by decide +kernel
theorem places_at (q n : Int) (hq : 1 ≤ q) (hq' : q ≤ 9007199254740992) (h0 : 0 ≤ n) (h1 : n ≤ 48) :
    ring_Places.f 60 q n = some (fromN (4 + 48 * (q % 2)) n.toNat, 0) := by
  have ha : ring_may.f q = some true := by unfold ring_may.f; rw [if_pos hq, decide_eq_true hq']
  unfold ring_Places.f
  rw [ha, and1 q (by omega) (by omega)]
  simp only [Option.bind_some, if_true]
  rw [if_neg (by omega), if_neg (by omega)]
  have hs := places_small ⟨n.toNat, by omega⟩
  have e : ((n.toNat : Nat) : Int) = n := by omega
  simp only [e] at hs
  rcases (show q % 2 = 0 ∨ q % 2 = 1 by omega) with h | h <;> rw [h]
  · rw [show wrap64 (4 + wrap64 (0 * 48)) = 4 by decide +kernel]; exact hs.1
  · rw [show wrap64 (4 + wrap64 (1 * 48)) = 52 by decide +kernel]; exact hs.2
theorem mark_at (q : Int) (hq : 1 ≤ q) (hq' : q ≤ 9007199254740992) : ring_Mark.f q = some (2 + q % 2, 0) := by
  have ha : ring_may.f q = some true := by unfold ring_may.f; rw [if_pos hq, decide_eq_true hq']
  unfold ring_Mark.f
  rw [ha, and1 q (by omega) (by omega)]
  simp only [Option.bind_some, if_true]
  rcases (show q % 2 = 0 ∨ q % 2 = 1 by omega) with h | h <;> rw [h] <;> decide +kernel
/-- A list of numbers that came back: each in its cell. -/
theorem ints_at {w : World} {A : Option Addr} {n : Nat} {xs : List Int} (h : (Kd.int .i64).C w A n xs) : ∀ (i : Nat) x, xs[i]? = some x → ∃ ad, A = some ad ∧ w.cell? (ad.add i) = some (.int .i64 x) := fun i x hx => by
  have hi := (List.getElem?_eq_some_iff.1 hx).1
  obtain ⟨ad, e, hc⟩ := h.2.2 (by have := h.1; omega)
  obtain ⟨c, hl, hr, hcell⟩ := hc i x hx
  refine ⟨ad, e, ?_⟩
  have hc' : c = [.int .i64 x] := hr
  have := hcell 0 (.int .i64 x) (by rw [hc']; rfl)
  have e1 : i * (Kd.int .i64).sz + 0 = i := by simp [Kd.int, Kd.scalar]
  rw [e1] at this
  exact this
theorem places_calls (q : Int) (n : Nat) (hq : 1 ≤ q) (hq' : q ≤ 9007199254740992) (hn : n ≤ 48) (w : World) : Calls Try.prog 25 #[.int .i64 q, .int .i64 n] w fun e w' =>
    ∃ A c, e = .returned (.tuple #[.slice A n c, .int .i64 0]) ∧ n ≤ c ∧ (∀ i, i < n → ∃ ad, A = some ad ∧ w'.cell? (ad.add i) = some (.int .i64 (4 + 48 * (q % 2) + i))) ∧ Below w.heap.size w w' := by
  refine (ring_Places.calls 60 q n _ _ w (places_at q n hq hq' (by omega) (by omega))).mono ?_
  rintro e w1 ⟨v1, rfl, hr1, b1⟩
  obtain ⟨A, c, rfl, hc, hC⟩ := Kd.R_reads hr1
  have hl : (fromN (4 + 48 * (q % 2)) (n : Int).toNat).length = n := by rw [fromN_length]; omega
  have h := ints_at hC
  rw [hl] at hc ⊢
  refine ⟨A, c, rfl, hc, fun i hi => h i _ ?_, b1⟩
  unfold fromN
  rw [List.getElem?_map, List.getElem?_range (by omega)]
  rfl
theorem mark_calls (q : Int) (hq : 1 ≤ q) (hq' : q ≤ 9007199254740992) (x : Int) (hx : 2 + q % 2 = x) (w : World) : Calls Try.prog 28 #[.int .i64 q] w fun e w' => e = .returned (.tuple #[.int .i64 x, .int .i64 0]) ∧ Below w.heap.size w w' := by
  refine (ring_Mark.calls q _ _ w (mark_at q hq hq')).mono ?_
  rintro e w1 ⟨rfl, ⟨nd, rfl⟩⟩
  subst hx
  exact ⟨rfl, bd (br _) nd⟩
theorem law : Go.Maps.Keyed Try.prog 3 := int_keyed Try.underlying3
theorem key_of {v : Int} (h0 : 0 ≤ v) (h1 : v < 1000) : keyOf Try.prog 3 (.int .i64 v) = some (.int .i64 v) :=
  Maps.keyOf_int_mk (P := Try.prog) (k := 3) Try.underlying3 (by simp [Lit.wf, IntKind.min, IntKind.max, IntKind.signed, IntKind.bits]; omega)
theorem zeroB (w : World) : (zeroValue 4).run Try.prog w = .ok (.bool false) w := by kernel_rfl
/-- The map at its literal: i entries are laid, all below 4. -/
def Gd (w0 : World) (mb i : Nat) (w : World) : Prop := ∃ p, Sp w0 [bmap Try.prog 3 4 mb i p] w ∧ ∀ v, p (.int .i64 v) = true → v < 4
theorem gd_step {w0 : World} {mb i : Nat} (hi : i < 4) {v : Int} (h0 : 0 ≤ v) (h1 : v < 4) {w : World} (h : Gd w0 mb i w) :
    ∃ w', (Instr.mapUpdate 43 (.map (some mb)) (.int .i64 v) (.bool true)).run Try.prog w = .ok () w' ∧ Gd w0 mb (i + 1) w' := by
  obtain ⟨p, hs, hp⟩ := h
  obtain ⟨w', hr, hb, hg⟩ := (hs.bmap (List.mem_cons_self ..)).put (t := 43) law Try.underlying43 Try.underlying4 (by unfold maxLen; omega) (key_of h0 (by omega)) true
  refine ⟨w', hr, _, hs.mapSet hb hg, fun u hu => ?_⟩
  by_cases e : (Lit.int .i64 u) = Lit.int .i64 v
  · have : u = v := by injection e
    omega
  · rw [upd_other e] at hu; exact hp u hu
/-- Where such a store leads. -/
noncomputable def nx (mb : Nat) (v : Int) (w : World) : World := @dite _ (∃ w', (Instr.mapUpdate 43 (.map (some mb)) (.int .i64 v) (.bool true)).run Try.prog w = .ok () w') (Classical.propDecidable _) (fun h => Classical.choose h) (fun _ => w)
theorem nx_run {w0 : World} {mb i : Nat} (hi : i < 4) {v : Int} (h0 : 0 ≤ v) (h1 : v < 4) {w : World} (h : Gd w0 mb i w) :
    (Instr.mapUpdate 43 (.map (some mb)) (.int .i64 v) (.bool true)).run Try.prog w = .ok () (nx mb v w) ∧ Gd w0 mb (i + 1) (nx mb v w) := by
  obtain ⟨w', hr, hg⟩ := gd_step hi h0 h1 h
  have hex : ∃ w', (Instr.mapUpdate 43 (.map (some mb)) (.int .i64 v) (.bool true)).run Try.prog w = .ok () w' := ⟨w', hr⟩
  have e : (Instr.mapUpdate 43 (.map (some mb)) (.int .i64 v) (.bool true)).run Try.prog w = .ok () (nx mb v w) := by
    unfold nx
    rw [dif_pos hex]
    exact Classical.choose_spec hex
  refine ⟨e, ?_⟩
  rw [hr] at e
  injection e with _ e2
  rw [← e2]; exact hg
/-- What has been met: what is below 4, and so many of each batch. -/
def Met (p : Lit → Bool) (l1 l2 : Int) (c1 c2 : Nat) : Prop := ∀ v, p (.int .i64 v) = true → v < 4 ∨ (l1 ≤ v ∧ v < l1 + c1) ∨ (l2 ≤ v ∧ v < l2 + c2)
/-- The loop's state. -/
def St (w0 : World) (mb q : Nat) (B : Array Value) (l1 l2 : Int) (c1 c2 : Nat) (w : World) : Prop :=
  ∃ N p, Sp w0 [bmap Try.prog 3 4 mb N p, blk q B 22] w ∧ N ≤ 4 + c1 + c2 ∧ Met p l1 l2 c1 c2
theorem st_0 {w0 w : World} {mb q n m j : Nat} {B : Array Value} {l1 l2 y1 y2 : Int} {ad : Addr} (HL : (l1 = 4 ∧ l2 = 52 ∨ l1 = 52 ∧ l2 = 4) ∧ (y1 = 2 ∧ y2 = 3 ∨ y1 = 3 ∧ y2 = 2) ∧ n ≤ 48 ∧ m ≤ 48) (hj : j < n) (hc : w0.cell? (ad.add j) = some (.int .i64 (l1 + j))) (h : St w0 mb q B l1 l2 j 0 w) :
    ∃ w' v, w.cell? (ad.add j) = some (.int .i64 v) ∧ (Instr.lookup 43 (.map (some mb)) (.int .i64 v) false).run Try.prog w = .ok (.bool false) w ∧
      (Instr.mapUpdate 43 (.map (some mb)) (.int .i64 v) (.bool true)).run Try.prog w = .ok () w' ∧ 0 ≤ v ∧ v < 100 ∧ St w0 mb q B l1 l2 (j + 1) 0 w' := by
  obtain ⟨N, p, h4, hN, hM⟩ := h
  obtain ⟨v, hv⟩ : ∃ v, v = l1 + (j : Int) := ⟨_, rfl⟩
  rw [← hv] at hc
  have h0 : 0 ≤ v := by omega
  have h1 : v < 100 := by omega
  have hkey := key_of h0 (by omega)
  have hb := h4.bmap (P := Try.prog) (k := 3) (e := 4) (b := mb) (n := N) (p := p) (by simp)
  have hpf : p (.int .i64 v) = false := Bool.eq_false_iff.2 (fun e => by rcases hM v e with e | e | e <;> omega)
  have hlook := hb.look (t := 43) law Try.underlying43 Try.underlying4 (zeroB _) hkey
  rw [hpf] at hlook
  obtain ⟨w', hrun, hb', hg⟩ := hb.put (t := 43) law Try.underlying43 Try.underlying4 (by unfold maxLen; omega) hkey true
  refine ⟨w', v, (h4.bel.cell (World.block_lt_of_cell? _ _ hc)).trans hc, hlook, hrun, h0, h1, N + 1, _, h4.mapSet hb' hg, by omega, fun u hu => ?_⟩
  by_cases e : (Lit.int .i64 u) = Lit.int .i64 v
  · have : u = v := by injection e
    subst this
    omega
  · rw [upd_other e] at hu
    rcases hM u hu with e | e | e <;> omega
theorem st_1 {w0 w : World} {mb q n m j : Nat} {B : Array Value} {l1 l2 y1 y2 : Int} {ad : Addr} (HL : (l1 = 4 ∧ l2 = 52 ∨ l1 = 52 ∧ l2 = 4) ∧ (y1 = 2 ∧ y2 = 3 ∨ y1 = 3 ∧ y2 = 2) ∧ n ≤ 48 ∧ m ≤ 48) (hj : j < m) (hc : w0.cell? (ad.add j) = some (.int .i64 (l2 + j))) (h : St w0 mb q B l1 l2 n j w) :
    ∃ w' v, w.cell? (ad.add j) = some (.int .i64 v) ∧ (Instr.lookup 43 (.map (some mb)) (.int .i64 v) false).run Try.prog w = .ok (.bool false) w ∧
      (Instr.mapUpdate 43 (.map (some mb)) (.int .i64 v) (.bool true)).run Try.prog w = .ok () w' ∧ 0 ≤ v ∧ v < 100 ∧ St w0 mb q B l1 l2 n (j + 1) w' := by
  obtain ⟨N, p, h4, hN, hM⟩ := h
  obtain ⟨v, hv⟩ : ∃ v, v = l2 + (j : Int) := ⟨_, rfl⟩
  rw [← hv] at hc
  have h0 : 0 ≤ v := by omega
  have h1 : v < 100 := by omega
  have hkey := key_of h0 (by omega)
  have hb := h4.bmap (P := Try.prog) (k := 3) (e := 4) (b := mb) (n := N) (p := p) (by simp)
  have hpf : p (.int .i64 v) = false := Bool.eq_false_iff.2 (fun e => by rcases hM v e with e | e | e <;> omega)
  have hlook := hb.look (t := 43) law Try.underlying43 Try.underlying4 (zeroB _) hkey
  rw [hpf] at hlook
  obtain ⟨w', hrun, hb', hg⟩ := hb.put (t := 43) law Try.underlying43 Try.underlying4 (by unfold maxLen; omega) hkey true
  refine ⟨w', v, (h4.bel.cell (World.block_lt_of_cell? _ _ hc)).trans hc, hlook, hrun, h0, h1, N + 1, _, h4.mapSet hb' hg, by omega, fun u hu => ?_⟩
  by_cases e : (Lit.int .i64 u) = Lit.int .i64 v
  · have : u = v := by injection e
    subst this
    omega
  · rw [upd_other e] at hu
    rcases hM u hu with e | e | e <;> omega
set_option maxHeartbeats 16000000 in
set_option maxRecDepth 100000 in
theorem walk (a0 a1 a2 : Int) (w : World) (w0 : (Lit.int .i64 a0).wf = true) (w1 : (Lit.int .i64 a1).wf = true) (w2 : (Lit.int .i64 a2).wf = true) :
    Calls Try.prog 6 #[.int .i64 a0, .int .i64 a1, .int .i64 a2] w fun e w' => e = .returned (.bool true) ∧ Below w.heap.size w w' := by
  obtain ⟨q1, hq1⟩ : ∃ q1 : Int, q1 = 1 + max 0 a0 % 9007199254740991 := ⟨_, rfl⟩
  obtain ⟨q2, hq2⟩ : ∃ q2, q2 = q1 + 1 := ⟨_, rfl⟩
  obtain ⟨n, hn⟩ : ∃ n : Nat, (n : Int) = max 0 a1 % 49 := ⟨(max 0 a1 % 49).toNat, by omega⟩
  obtain ⟨m, hm⟩ : ∃ m : Nat, (m : Int) = max 0 a2 % 49 := ⟨(max 0 a2 % 49).toNat, by omega⟩
  obtain ⟨y1, hy1⟩ : ∃ y, 2 + q1 % 2 = y := ⟨_, rfl⟩
  obtain ⟨y2, hy2⟩ : ∃ y, 2 + q2 % 2 = y := ⟨_, rfl⟩
  obtain ⟨l1, hl1⟩ : ∃ y, 4 + 48 * (q1 % 2) = y := ⟨_, rfl⟩
  obtain ⟨l2, hl2⟩ : ∃ y, 4 + 48 * (q2 % 2) = y := ⟨_, rfl⟩
  have HL : Hid ((l1 = 4 ∧ l2 = 52 ∨ l1 = 52 ∧ l2 = 4) ∧ (y1 = 2 ∧ y2 = 3 ∨ y1 = 3 ∧ y2 = 2) ∧ n ≤ 48 ∧ m ≤ 48) := Lib.hid ⟨by omega, by omega, by omega, by omega⟩
  have HP1 := Lib.hid (fun wx => hl1 ▸ places_calls q1 n (by omega) (by omega) (by omega) wx)
  have HP2 := Lib.hid (fun wx => hl2 ▸ places_calls q2 m (by omega) (by omega) (by omega) wx)
  have HM1 := Lib.hid (fun wx => mark_calls q1 (by omega) (by omega) y1 hy1 wx)
  have HM2 := Lib.hid (fun wx => mark_calls q2 (by omega) (by omega) y2 hy2 wx)
  have HQ := Lib.hid (And.intro hq1 (And.intro hq2 (And.intro hn hm)))
  have w12 : IntKind.i64.wrap (q1 + 1) = q2 := by rw [IntKind.wrap_i64]; omega
  have w13 : wrap64 (q1 + 1) = q2 := by unfold wrap64; omega
  have hxy : decide (y1 = y2) = false := decide_eq_false (by omega)
  have hxy2 : ¬ y1 = y2 := by omega
  have hxy3 : (y1 == y2) = false := beq_eq_false_iff_ne.2 hxy2
  clear w0 w1 w2 hl1 hl2 hy1 hy2 hq1 hq2 hn hm
  go_enter Try.func6, Try.ntmps6
  go_upto_region 1 with fail
  go_cut [0] (fun s0 wx => s0 = .int .i64 q1 ∧ w = wx)
  case first =>
    by_cases hs : 0 < a0
    · go_wp2
      go_meet
      case rel => exact ⟨congrArg (Value.int .i64) (by have := HQ.out.1; omega), rfl⟩
    · go_wp2
      go_meet
      case rel => exact ⟨congrArg (Value.int .i64) (by have := HQ.out.1; omega), rfl⟩
  case rest =>
  obtain ⟨rfl, rfl⟩ := hcut
  go_upto_region 2 with fail
  go_cut [7, 8] (fun s7 s8 wx => ∃ F1 c1, s7 = .slice F1 n c1 ∧ s8 = .int .i64 0 ∧ n ≤ c1 ∧ Hid (∀ i, i < n → ∃ ad, F1 = some ad ∧ wx.cell? (ad.add i) = some (.int .i64 (l1 + i))) ∧ Hid (Below w.heap.size w wx))
  case first =>
    by_cases hs : 0 < a1
    · have hx : a1 % 49 = n := by have := HQ.out.2.2.1; omega
      go_wp2_with fail
      refine (HP1.out _).mono ?_
      rintro e w1 ⟨F1, c1, rfl, hc1, hC1, b1⟩
      go_wp2
      go_meet
      case rel => exact ⟨F1, c1, rfl, rfl, hc1, Lib.hid hC1, Lib.hid b1⟩
    · obtain rfl : n = 0 := by have := HQ.out.2.2.1; omega
      go_wp2_with fail
      refine (HP1.out _).mono ?_
      rintro e w1 ⟨F1, c1, rfl, hc1, hC1, b1⟩
      go_wp2
      go_meet
      case rel => exact ⟨F1, c1, rfl, rfl, hc1, Lib.hid hC1, Lib.hid b1⟩
  case rest =>
  obtain ⟨F1, c1, rfl, rfl, hc1, HC1, HB1⟩ := hcut
  go_upto_region 3 with fail
  go_cut [9, 10] (fun s7 s8 wx => ∃ F1 c1, s7 = .slice F1 m c1 ∧ s8 = .int .i64 0 ∧ m ≤ c1 ∧ Hid (∀ i, i < m → ∃ ad, F1 = some ad ∧ wx.cell? (ad.add i) = some (.int .i64 (l2 + i))) ∧ Hid (Below wc.heap.size wc wx))
  case first =>
    by_cases hs : 0 < a2
    · have hx : a2 % 49 = m := by have := HQ.out.2.2.2; omega
      go_wp2_with fail
      refine (HP2.out _).mono ?_
      rintro e w1 ⟨F2, c2, rfl, hc2, hC2, b2⟩
      go_wp2
      go_meet
      case rel => exact ⟨F2, c2, rfl, rfl, hc2, Lib.hid hC2, Lib.hid b2⟩
    · obtain rfl : m = 0 := by have := HQ.out.2.2.2; omega
      go_wp2_with fail
      refine (HP2.out _).mono ?_
      rintro e w1 ⟨F2, c2, rfl, hc2, hC2, b2⟩
      go_wp2
      go_meet
      case rel => exact ⟨F2, c2, rfl, rfl, hc2, Lib.hid hC2, Lib.hid b2⟩
  case rest =>
  obtain ⟨F2, c2, rfl, rfl, hc2, HC2, HB2⟩ := hcut
  go_wp2_with fail
  refine (HM1.out _).mono ?_
  rintro e w3 ⟨rfl, b3⟩
  have HB3 := Lib.hid b3
  clear b3
  go_wp2_with fail
  refine (HM2.out _).mono ?_
  rintro e w4 ⟨rfl, b4⟩
  have HB4 := Lib.hid b4
  clear b4
  go_upto_region 6 with fail
  go_cut [82] (fun s82 wx => s82 = .bool false ∧ Hid (Below w4.heap.size w4 wx))
  case first =>
    by_cases hs : 0 < a1
    · have hx : a1 % 49 = n := by have := HQ.out.2.2.1; omega
      go_wp2_with fail
      refine (RingW.wakes_calls _).mono ?_
      rintro e w5 ⟨rfl, b5⟩
      go_wp2
      go_meet
      case rel => exact ⟨by first | rfl | rw [hxy3], Lib.hid b5⟩
    · obtain rfl : n = 0 := by have := HQ.out.2.2.1; omega
      go_wp2_with fail
      refine (RingW.wakes_calls _).mono ?_
      rintro e w5 ⟨rfl, b5⟩
      go_wp2
      go_meet
      case rel => exact ⟨by first | rfl | rw [hxy3], Lib.hid b5⟩
  case rest =>
  obtain ⟨rfl, HB5⟩ := hcut
  rename World => wb
  have HB : Hid (Below w.heap.size w wb) := Lib.hid (bt (bt HB1.out HB2.out) (bt (bt HB3.out HB4.out) HB5.out))
  have HD1 : Hid (∀ i, i < n → ∃ ad, F1 = some ad ∧ wb.cell? (ad.add i) = some (.int .i64 (l1 + i))) := Lib.hid (fun i hi => by
    obtain ⟨ad, e, h⟩ := HC1.out i hi
    exact ⟨ad, e, ((bt HB2.out (bt (bt HB3.out HB4.out) HB5.out)).cell (World.block_lt_of_cell? _ _ h)).trans h⟩)
  have HD2 : Hid (∀ i, i < m → ∃ ad, F2 = some ad ∧ wb.cell? (ad.add i) = some (.int .i64 (l2 + i))) := Lib.hid (fun i hi => by
    obtain ⟨ad, e, h⟩ := HC2.out i hi
    exact ⟨ad, e, ((bt (bt HB3.out HB4.out) HB5.out).cell (World.block_lt_of_cell? _ _ h)).trans h⟩)
  have g : Gd wb wb.heap.size 0 (wb.alloc (.map #[] 0)).drew := ⟨_, ((Sp.start wb).newMap Try.prog 3 4).drew, fun v hv => by simp at hv⟩
  have hmm : (Instr.makeMap 43 none).run Try.prog wb.drew = .ok (.map (some wb.heap.size)) (wb.alloc (.map #[] 0)).drew := @run_makeMap Try.prog 43 wb.drew
  have b0 : (0 : Int) ≤ y1 ∧ y1 < 4 := by have := HL.out; omega
  have b1 : (0 : Int) ≤ y2 ∧ y2 < 4 := by have := HL.out; omega
  have b2 : (0 : Int) ≤ 0 ∧ (0 : Int) < 4 := by omega
  have b3 : (0 : Int) ≤ 1 ∧ (1 : Int) < 4 := by omega
  obtain ⟨r0, g0⟩ := nx_run (i := 0) (v := y1) (by decide) b0.1 b0.2 g
  obtain ⟨r1, g1⟩ := nx_run (i := 0) (v := y2) (by decide) b1.1 b1.2 g
  obtain ⟨r2, g2⟩ := nx_run (i := 0) (v := 0) (by decide) b2.1 b2.2 g
  obtain ⟨r3, g3⟩ := nx_run (i := 0) (v := 1) (by decide) b3.1 b3.2 g
  obtain ⟨r01, g01⟩ := nx_run (i := 1) (v := y2) (by decide) b1.1 b1.2 g0
  obtain ⟨r02, g02⟩ := nx_run (i := 1) (v := 0) (by decide) b2.1 b2.2 g0
  obtain ⟨r03, g03⟩ := nx_run (i := 1) (v := 1) (by decide) b3.1 b3.2 g0
  obtain ⟨r10, g10⟩ := nx_run (i := 1) (v := y1) (by decide) b0.1 b0.2 g1
  obtain ⟨r12, g12⟩ := nx_run (i := 1) (v := 0) (by decide) b2.1 b2.2 g1
  obtain ⟨r13, g13⟩ := nx_run (i := 1) (v := 1) (by decide) b3.1 b3.2 g1
  obtain ⟨r20, g20⟩ := nx_run (i := 1) (v := y1) (by decide) b0.1 b0.2 g2
  obtain ⟨r21, g21⟩ := nx_run (i := 1) (v := y2) (by decide) b1.1 b1.2 g2
  obtain ⟨r23, g23⟩ := nx_run (i := 1) (v := 1) (by decide) b3.1 b3.2 g2
  obtain ⟨r30, g30⟩ := nx_run (i := 1) (v := y1) (by decide) b0.1 b0.2 g3
  obtain ⟨r31, g31⟩ := nx_run (i := 1) (v := y2) (by decide) b1.1 b1.2 g3
  obtain ⟨r32, g32⟩ := nx_run (i := 1) (v := 0) (by decide) b2.1 b2.2 g3
  obtain ⟨r012, g012⟩ := nx_run (i := 2) (v := 0) (by decide) b2.1 b2.2 g01
  obtain ⟨r013, g013⟩ := nx_run (i := 2) (v := 1) (by decide) b3.1 b3.2 g01
  obtain ⟨r021, g021⟩ := nx_run (i := 2) (v := y2) (by decide) b1.1 b1.2 g02
  obtain ⟨r023, g023⟩ := nx_run (i := 2) (v := 1) (by decide) b3.1 b3.2 g02
  obtain ⟨r031, g031⟩ := nx_run (i := 2) (v := y2) (by decide) b1.1 b1.2 g03
  obtain ⟨r032, g032⟩ := nx_run (i := 2) (v := 0) (by decide) b2.1 b2.2 g03
  obtain ⟨r102, g102⟩ := nx_run (i := 2) (v := 0) (by decide) b2.1 b2.2 g10
  obtain ⟨r103, g103⟩ := nx_run (i := 2) (v := 1) (by decide) b3.1 b3.2 g10
  obtain ⟨r120, g120⟩ := nx_run (i := 2) (v := y1) (by decide) b0.1 b0.2 g12
  obtain ⟨r123, g123⟩ := nx_run (i := 2) (v := 1) (by decide) b3.1 b3.2 g12
  obtain ⟨r130, g130⟩ := nx_run (i := 2) (v := y1) (by decide) b0.1 b0.2 g13
  obtain ⟨r132, g132⟩ := nx_run (i := 2) (v := 0) (by decide) b2.1 b2.2 g13
  obtain ⟨r201, g201⟩ := nx_run (i := 2) (v := y2) (by decide) b1.1 b1.2 g20
  obtain ⟨r203, g203⟩ := nx_run (i := 2) (v := 1) (by decide) b3.1 b3.2 g20
  obtain ⟨r210, g210⟩ := nx_run (i := 2) (v := y1) (by decide) b0.1 b0.2 g21
  obtain ⟨r213, g213⟩ := nx_run (i := 2) (v := 1) (by decide) b3.1 b3.2 g21
  obtain ⟨r230, g230⟩ := nx_run (i := 2) (v := y1) (by decide) b0.1 b0.2 g23
  obtain ⟨r231, g231⟩ := nx_run (i := 2) (v := y2) (by decide) b1.1 b1.2 g23
  obtain ⟨r301, g301⟩ := nx_run (i := 2) (v := y2) (by decide) b1.1 b1.2 g30
  obtain ⟨r302, g302⟩ := nx_run (i := 2) (v := 0) (by decide) b2.1 b2.2 g30
  obtain ⟨r310, g310⟩ := nx_run (i := 2) (v := y1) (by decide) b0.1 b0.2 g31
  obtain ⟨r312, g312⟩ := nx_run (i := 2) (v := 0) (by decide) b2.1 b2.2 g31
  obtain ⟨r320, g320⟩ := nx_run (i := 2) (v := y1) (by decide) b0.1 b0.2 g32
  obtain ⟨r321, g321⟩ := nx_run (i := 2) (v := y2) (by decide) b1.1 b1.2 g32
  obtain ⟨r0123, g0123⟩ := nx_run (i := 3) (v := 1) (by decide) b3.1 b3.2 g012
  obtain ⟨r0132, g0132⟩ := nx_run (i := 3) (v := 0) (by decide) b2.1 b2.2 g013
  obtain ⟨r0213, g0213⟩ := nx_run (i := 3) (v := 1) (by decide) b3.1 b3.2 g021
  obtain ⟨r0231, g0231⟩ := nx_run (i := 3) (v := y2) (by decide) b1.1 b1.2 g023
  obtain ⟨r0312, g0312⟩ := nx_run (i := 3) (v := 0) (by decide) b2.1 b2.2 g031
  obtain ⟨r0321, g0321⟩ := nx_run (i := 3) (v := y2) (by decide) b1.1 b1.2 g032
  obtain ⟨r1023, g1023⟩ := nx_run (i := 3) (v := 1) (by decide) b3.1 b3.2 g102
  obtain ⟨r1032, g1032⟩ := nx_run (i := 3) (v := 0) (by decide) b2.1 b2.2 g103
  obtain ⟨r1203, g1203⟩ := nx_run (i := 3) (v := 1) (by decide) b3.1 b3.2 g120
  obtain ⟨r1230, g1230⟩ := nx_run (i := 3) (v := y1) (by decide) b0.1 b0.2 g123
  obtain ⟨r1302, g1302⟩ := nx_run (i := 3) (v := 0) (by decide) b2.1 b2.2 g130
  obtain ⟨r1320, g1320⟩ := nx_run (i := 3) (v := y1) (by decide) b0.1 b0.2 g132
  obtain ⟨r2013, g2013⟩ := nx_run (i := 3) (v := 1) (by decide) b3.1 b3.2 g201
  obtain ⟨r2031, g2031⟩ := nx_run (i := 3) (v := y2) (by decide) b1.1 b1.2 g203
  obtain ⟨r2103, g2103⟩ := nx_run (i := 3) (v := 1) (by decide) b3.1 b3.2 g210
  obtain ⟨r2130, g2130⟩ := nx_run (i := 3) (v := y1) (by decide) b0.1 b0.2 g213
  obtain ⟨r2301, g2301⟩ := nx_run (i := 3) (v := y2) (by decide) b1.1 b1.2 g230
  obtain ⟨r2310, g2310⟩ := nx_run (i := 3) (v := y1) (by decide) b0.1 b0.2 g231
  obtain ⟨r3012, g3012⟩ := nx_run (i := 3) (v := 0) (by decide) b2.1 b2.2 g301
  obtain ⟨r3021, g3021⟩ := nx_run (i := 3) (v := y2) (by decide) b1.1 b1.2 g302
  obtain ⟨r3102, g3102⟩ := nx_run (i := 3) (v := 0) (by decide) b2.1 b2.2 g310
  obtain ⟨r3120, g3120⟩ := nx_run (i := 3) (v := y1) (by decide) b0.1 b0.2 g312
  obtain ⟨r3201, g3201⟩ := nx_run (i := 3) (v := y2) (by decide) b1.1 b1.2 g320
  obtain ⟨r3210, g3210⟩ := nx_run (i := 3) (v := y1) (by decide) b0.1 b0.2 g321
  clear g g0 g1 g2 g3 g01 g02 g03 g10 g12 g13 g20 g21 g23 g30 g31 g32 g012 g013 g021 g023 g031 g032 g102 g103 g120 g123 g130 g132 g201 g203 g210 g213 g230 g231 g301 g302 g310 g312 g320 g321 HB1 HB2 HB3 HB4 HB5 HC1 HC2
  have Hg0123 := Lib.hid g0123
  have Hg0132 := Lib.hid g0132
  have Hg0213 := Lib.hid g0213
  have Hg0231 := Lib.hid g0231
  have Hg0312 := Lib.hid g0312
  have Hg0321 := Lib.hid g0321
  have Hg1023 := Lib.hid g1023
  have Hg1032 := Lib.hid g1032
  have Hg1203 := Lib.hid g1203
  have Hg1230 := Lib.hid g1230
  have Hg1302 := Lib.hid g1302
  have Hg1320 := Lib.hid g1320
  have Hg2013 := Lib.hid g2013
  have Hg2031 := Lib.hid g2031
  have Hg2103 := Lib.hid g2103
  have Hg2130 := Lib.hid g2130
  have Hg2301 := Lib.hid g2301
  have Hg2310 := Lib.hid g2310
  have Hg3012 := Lib.hid g3012
  have Hg3021 := Lib.hid g3021
  have Hg3102 := Lib.hid g3102
  have Hg3120 := Lib.hid g3120
  have Hg3201 := Lib.hid g3201
  have Hg3210 := Lib.hid g3210
  clear g0123 g0132 g0213 g0231 g0312 g0321 g1023 g1032 g1203 g1230 g1302 g1320 g2013 g2031 g2103 g2130 g2301 g2310 g3012 g3021 g3102 g3120 g3201 g3210 b0 b1 b2 b3
  generalize wb.heap.size = mb at *
  go_upto_region 8 with fail
  go_cut [15] (fun s15 wx => s15 = .map (some mb) ∧ Gd wb mb 4 wx)
  case first =>
    go_region
    all_goals go_wp2
    all_goals go_meet
    all_goals first | exact ⟨rfl, Hg0123.out⟩ | exact ⟨rfl, Hg0132.out⟩ | exact ⟨rfl, Hg0213.out⟩ | exact ⟨rfl, Hg0231.out⟩ | exact ⟨rfl, Hg0312.out⟩ | exact ⟨rfl, Hg0321.out⟩ | exact ⟨rfl, Hg1023.out⟩ | exact ⟨rfl, Hg1032.out⟩ | exact ⟨rfl, Hg1203.out⟩ | exact ⟨rfl, Hg1230.out⟩ | exact ⟨rfl, Hg1302.out⟩ | exact ⟨rfl, Hg1320.out⟩ | exact ⟨rfl, Hg2013.out⟩ | exact ⟨rfl, Hg2031.out⟩ | exact ⟨rfl, Hg2103.out⟩ | exact ⟨rfl, Hg2130.out⟩ | exact ⟨rfl, Hg2301.out⟩ | exact ⟨rfl, Hg2310.out⟩ | exact ⟨rfl, Hg3012.out⟩ | exact ⟨rfl, Hg3021.out⟩ | exact ⟨rfl, Hg3102.out⟩ | exact ⟨rfl, Hg3120.out⟩ | exact ⟨rfl, Hg3201.out⟩ | exact ⟨rfl, Hg3210.out⟩
  case rest =>
  obtain ⟨rfl, p, h1, hp⟩ := hcut
  clear hmm r0 r1 r2 r3 r01 r02 r03 r10 r12 r13 r20 r21 r23 r30 r31 r32 r012 r013 r021 r023 r031 r032 r102 r103 r120 r123 r130 r132 r201 r203 r210 r213 r230 r231 r301 r302 r310 r312 r320 r321 r0123 r0132 r0213 r0231 r0312 r0321 r1023 r1032 r1203 r1230 r1302 r1320 r2013 r2031 r2103 r2130 r2301 r2310 r3012 r3021 r3102 r3120 r3201 r3210
  clear Hg0123 Hg0132 Hg0213 Hg0231 Hg0312 Hg0321 Hg1023 Hg1032 Hg1203 Hg1230 Hg1302 Hg1320 Hg2013 Hg2031 Hg2103 Hg2130 Hg2301 Hg2310 Hg3012 Hg3021 Hg3102 Hg3120 Hg3201 Hg3210
  have h2 := (h1.new #[.slice F1 n c1, .slice F2 m c2] 22).front 1 rfl
  have h2 : Sp wb [bmap Try.prog 3 4 mb 4 p, blk wc.heap.size #[.slice F1 n c1, .slice F2 m c2] 22] _ := h2
  have HS0 : Hid (St wb mb wc.heap.size #[.slice F1 n c1, .slice F2 m c2] l1 l2 0 0 _) := Lib.hid ⟨4, p, h2, by omega, fun v hv => .inl (hp v hv)⟩
  clear h1 hp h2
  go_wp2
  generalize wc.heap.size = q at HS0 ⊢
  go_loopw [91] (fun i wr => (i = .int .i64 0 ∧ Hid (St wb mb q #[.slice F1 n c1, .slice F2 m c2] l1 l2 0 0 wr)) ∨ (i = .int .i64 1 ∧ Hid (St wb mb q #[.slice F1 n c1, .slice F2 m c2] l1 l2 n 0 wr)) ∨ (i = .int .i64 2 ∧ Hid (St wb mb q #[.slice F1 n c1, .slice F2 m c2] l1 l2 n m wr))) (fun i _ => 2 - (intOf i).toNat)
  case atStart => exact .inl ⟨rfl, HS0⟩
  case round =>
    clear HS0
    rcases hrel with ⟨rfl, HS⟩ | ⟨rfl, HS⟩ | ⟨rfl, HS⟩
    · have pc : World.cell? wr ⟨q, 0, none⟩ = some (.slice F1 n c1) := by
        obtain ⟨N, p, h3, _⟩ := HS.out
        rw [(h3.blk (b := q) (C := #[.slice F1 n c1, .slice F2 m c2]) (T := 22) (by simp)).cell]; rfl
      go_wp2
      go_loopw [97] (fun i wx => ∃ j : Nat, j ≤ n ∧ i = .int .i64 j ∧ Hid (St wb mb q #[.slice F1 n c1, .slice F2 m c2] l1 l2 j 0 wx)) (fun i _ => n - (intOf i).toNat)
      case atStart => exact ⟨0, Nat.zero_le _, rfl, HS⟩
      case round =>
        clear HS pc
        obtain ⟨j, hj, rfl, HJ⟩ := hrel
        by_cases hlt : j < n
        · have dlt : decide ((j : Int) < (n : Int)) = true := decide_eq_true (by omega)
          obtain ⟨ad, rfl, hcell⟩ := HD1.out j hlt
          obtain ⟨w', v, hc, hlook, hrun, hv0, hv1, hS⟩ := st_0 HL.out hlt hcell HJ.out
          have HS3 := Lib.hid hS
          have hn48 : n ≤ 48 := HL.out.2.2.1
          have d1 : decide (v < 0) = false := decide_eq_false (by omega)
          have d2 : decide (100 ≤ v) = false := decide_eq_false (by omega)
          clear hS hcell HJ
          go_wp2
          go_roundw
          case measure => simp [intOf]; omega
          case rel => exact ⟨j + 1, by omega, by go_num, HS3⟩
        · obtain rfl : j = n := by omega
          have dlt : decide ((j : Int) < (j : Int)) = false := decide_eq_false (by omega)
          go_wp2
          go_roundw
          case measure => simp [intOf]
          case rel => exact .inr (.inl ⟨rfl, HJ⟩)
    · have pc : World.cell? wr ⟨q, 1, none⟩ = some (.slice F2 m c2) := by
        obtain ⟨N, p, h3, _⟩ := HS.out
        rw [(h3.blk (b := q) (C := #[.slice F1 n c1, .slice F2 m c2]) (T := 22) (by simp)).cell]; rfl
      go_wp2
      go_loopw [97] (fun i wx => ∃ j : Nat, j ≤ m ∧ i = .int .i64 j ∧ Hid (St wb mb q #[.slice F1 n c1, .slice F2 m c2] l1 l2 n j wx)) (fun i _ => m - (intOf i).toNat)
      case atStart => exact ⟨0, Nat.zero_le _, rfl, HS⟩
      case round =>
        clear HS pc
        obtain ⟨j, hj, rfl, HJ⟩ := hrel
        by_cases hlt : j < m
        · have dlt : decide ((j : Int) < (m : Int)) = true := decide_eq_true (by omega)
          obtain ⟨ad, rfl, hcell⟩ := HD2.out j hlt
          obtain ⟨w', v, hc, hlook, hrun, hv0, hv1, hS⟩ := st_1 HL.out hlt hcell HJ.out
          have HS3 := Lib.hid hS
          have hn48 : m ≤ 48 := HL.out.2.2.2
          have d1 : decide (v < 0) = false := decide_eq_false (by omega)
          have d2 : decide (100 ≤ v) = false := decide_eq_false (by omega)
          clear hS hcell HJ
          go_wp2
          go_roundw
          case measure => simp [intOf]; omega
          case rel => exact ⟨j + 1, by omega, by go_num, HS3⟩
        · obtain rfl : j = m := by omega
          have dlt : decide ((j : Int) < (j : Int)) = false := decide_eq_false (by omega)
          go_wp2
          go_roundw
          case measure => simp [intOf]
          case rel => exact .inr (.inr ⟨rfl, HJ⟩)
    · obtain ⟨N, p, h3, _⟩ := HS.out
      have HZ := Lib.hid (bt HB.out h3.bel)
      clear h3 HS
      go_wp2
      go_ret
      exact ⟨rfl, HZ.out⟩
end Go.Proofs.Ytanaaleojpbfbaa.RingApartW
