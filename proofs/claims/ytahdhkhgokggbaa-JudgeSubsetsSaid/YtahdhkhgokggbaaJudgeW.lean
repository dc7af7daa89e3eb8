/- The judge's calls in a law's words; what the document fixes. -/
import Derived.Test.YtahdhkhgokggbaaSector
namespace Go.Proofs.Ytahdhkhgokggbaa.Judge
open Go.RowKit Go.Proofs.Ytahdhkhgokggbaa.Mem
open Go.Proofs.YtahdhkhgokggbaaW.PrintWords hiding bt
set_option linter.unusedVariables false
set_option linter.unusedSimpArgs false

/-- A Flat that a law has made; else what was there ahead of the law is as it was. -/
def Jg (w0 : World) (F B n : Nat) (st : St) (w : World) : Prop := ∃ P C v g, Fl w F B P n st C v g ∧ (∀ k, P k → w0.heap.size ≤ k ∧ k < w.heap.size) ∧ Below w0.heap.size w0 w
theorem Jg.bel {w0 w : World} {F B n : Nat} {st : St} (h : Jg w0 F B n st w) : Below w0.heap.size w0 w := by obtain ⟨_, _, _, _, _, _, h⟩ := h; exact h
theorem Jg.below {w0 w w' : World} {F B n : Nat} {st : St} (h : Jg w0 F B n st w) (k : Below w.heap.size w w') : Jg w0 F B n st w' := by
  obtain ⟨P, C, v, g, h1, h2, h3⟩ := h
  exact ⟨P, C, v, g, h1.same (fun i hi => k.block i (h2 i hi).2), fun i hi => ⟨(h2 i hi).1, Nat.lt_of_lt_of_le (h2 i hi).2 k.size⟩, bt h3 k⟩
theorem Jg.drawn {w0 w w' : World} {F B n : Nat} {st : St} (h : Jg w0 F B n st w) (k : Drawn0 w w') : Jg w0 F B n st w' := by
  obtain ⟨nd, rfl⟩ := k
  exact h.below (bd (br _) _)
theorem Jg.flp {w0 w w' : World} {F B n : Nat} {st' : St} {P : Nat → Prop} (h2 : ∀ k, P k → w0.heap.size ≤ k ∧ k < w.heap.size) (h3 : Below w0.heap.size w0 w) (k : FlP w w' F B P n st') : Jg w0 F B n st' w' := by
  obtain ⟨P', C, v, g, k1, k2, k3⟩ := k
  refine ⟨P', C, v, g, k2, fun i hi => ?_, ?_⟩
  · rcases k1 i hi with q | q
    · exact ⟨(h2 i q).1, Nat.lt_of_lt_of_le (h2 i q).2 k3.size⟩
    · exact ⟨by have := h3.size; omega, q.2⟩
  · exact ⟨k3.os.trans h3.os, k3.tape.trans h3.tape, k3.output.trans h3.output, Nat.le_trans h3.size k3.size, fun i hi => by rw [k3.block i (Nat.lt_of_lt_of_le hi h3.size) (fun hp => by have := (h2 i hp).1; omega)]; exact h3.block i hi⟩

section
variable {w0 w : World} {F B n : Nat} {st : St}
theorem jnew (n : Nat) (h1 : 1 ≤ n) (h2 : n ≤ 2048) {w0 w : World} (h : Below w0.heap.size w0 w) :
    Calls Try.prog 15 #[.int .i64 (n : Nat)] w fun e w' => ∃ F B, e = .returned (.tuple #[.pointer (some ⟨F, 0, none⟩), .int .i64 0]) ∧ Jg w0 F B n (fresh n) w' := by
  refine (new_yes n h1 h2 w).mono ?_
  rintro e w' ⟨rfl, ⟨P, C, v, g, k1, k2⟩, k3⟩
  exact ⟨_, _, rfl, P, C, v, g, k1, fun i hi => ⟨by have := (k2 i hi).1; have := h.size; omega, (k2 i hi).2⟩, bt h k3⟩
theorem jput (h : Jg w0 F B n st w) (hn : n ≤ 1000000) (hfull : st.length = n) (hmost : ∀ x ∈ st, x.2.length < 1000000) (i : Int) (s : ByteArray) (told : Bool) :
    Calls Try.prog 20 #[.pointer (some ⟨F, 0, none⟩), .int .i64 i, .string s, .bool told] w fun e w' => e = .returned (.int .i64 (putE n i s)) ∧ Jg w0 F B n (putS n st i s told) w' := by
  obtain ⟨P, C, v, g, h1, h2, h3⟩ := h
  refine (put_calls h1 (fun k hk => (h2 k hk).2) hn hfull hmost i s told).mono ?_
  rintro e w' ⟨rfl, k⟩
  exact ⟨rfl, Jg.flp h2 h3 k⟩
theorem jget (h : Jg w0 F B n st w) (hn : n ≤ 1000000) (i : Nat) (x : ByteArray × List ByteArray) (hx : st[i]? = some x) :
    Calls Try.prog 19 #[.pointer (some ⟨F, 0, none⟩), .int .i64 (i : Nat)] w fun e w' => e = .returned (.tuple #[.string x.1, .int .i64 0]) ∧ Jg w0 F B n st w' := by
  have hh := h
  obtain ⟨P, C, v, g, h1, h2, h3⟩ := h
  refine (get_yes h1 hn i x hx).mono ?_
  rintro e w' ⟨rfl, k⟩
  exact ⟨rfl, hh.drawn k⟩
theorem jget_no (h : Jg w0 F B n st w) (hn : n ≤ 1000000) (i : Int) (hi : i < 0 ∨ (n : Int) ≤ i) :
    Calls Try.prog 19 #[.pointer (some ⟨F, 0, none⟩), .int .i64 i] w fun e w' => e = .returned (.tuple #[.string ⟨#[]⟩, .int .i64 3]) ∧ Jg w0 F B n st w' := by
  have hh := h
  obtain ⟨P, C, v, g, h1, h2, h3⟩ := h
  refine (get_no i 3 (by decide) _ w (at_no h1 hn i hi)).mono ?_
  rintro e w' ⟨rfl, k⟩
  exact ⟨rfl, hh.drawn k⟩
theorem jmay (h : Jg w0 F B n st w) (hn : n ≤ 1000000) (i : Nat) (x : ByteArray × List ByteArray) (hx : st[i]? = some x) (s : ByteArray) :
    Calls Try.prog 36 #[.pointer (some ⟨F, 0, none⟩), .int .i64 (i : Nat), .string s] w fun e w' => e = .returned (.bool (has s x.2)) ∧ Jg w0 F B n st w' := by
  have hh := h
  obtain ⟨P, C, v, g, h1, h2, h3⟩ := h
  refine (may_yes h1 hn i x hx s).mono ?_
  rintro e w' ⟨rfl, k⟩
  exact ⟨rfl, hh.drawn k⟩
theorem jmay_no (h : Jg w0 F B n st w) (hn : n ≤ 1000000) (i : Int) (hi : i < 0 ∨ (n : Int) ≤ i) (s : ByteArray) :
    Calls Try.prog 36 #[.pointer (some ⟨F, 0, none⟩), .int .i64 i, .string s] w fun e w' => e = .returned (.bool false) ∧ Jg w0 F B n st w' := by
  have hh := h
  obtain ⟨P, C, v, g, h1, h2, h3⟩ := h
  refine (may_no i 3 (by decide) _ s w (at_no h1 hn i hi)).mono ?_
  rintro e w' ⟨rfl, k⟩
  exact ⟨rfl, hh.drawn k⟩
theorem jways (h : Jg w0 F B n st w) (hn : n ≤ 1000000) (i : Nat) (x : ByteArray × List ByteArray) (hx : st[i]? = some x) :
    Calls Try.prog 33 #[.pointer (some ⟨F, 0, none⟩), .int .i64 (i : Nat)] w fun e w' => e = .returned (.int .i64 x.2.length) ∧ Jg w0 F B n st w' := by
  have hh := h
  obtain ⟨P, C, v, g, h1, h2, h3⟩ := h
  refine (ways_yes h1 hn i x hx).mono ?_
  rintro e w' ⟨rfl, k⟩
  exact ⟨rfl, hh.drawn k⟩
theorem jways_no (h : Jg w0 F B n st w) (hn : n ≤ 1000000) (i : Int) (hi : i < 0 ∨ (n : Int) ≤ i) :
    Calls Try.prog 33 #[.pointer (some ⟨F, 0, none⟩), .int .i64 i] w fun e w' => e = .returned (.int .i64 0) ∧ Jg w0 F B n st w' := by
  have hh := h
  obtain ⟨P, C, v, g, h1, h2, h3⟩ := h
  refine (ways_no i 3 (by decide) _ w (at_no h1 hn i hi)).mono ?_
  rintro e w' ⟨rfl, k⟩
  exact ⟨rfl, hh.drawn k⟩
theorem jblocks (h : Jg w0 F B n st w) (hn : n ≤ 1000000) :
    Calls Try.prog 31 #[.pointer (some ⟨F, 0, none⟩)] w fun e w' => e = .returned (.int .i64 n) ∧ Jg w0 F B n st w' := by
  have hh := h
  obtain ⟨P, C, v, g, h1, h2, h3⟩ := h
  refine (blocks_calls h1 hn).mono ?_
  rintro e w' ⟨rfl, k⟩
  exact ⟨rfl, hh.drawn k⟩
theorem jsync (h : Jg w0 F B n st w) (hn : n ≤ 1000000) (hfull : st.length = n) :
    Calls Try.prog 18 #[.pointer (some ⟨F, 0, none⟩)] w fun e w' => e = .returned (.tuple #[]) ∧ Jg w0 F B n (upto st n) w' := by
  obtain ⟨P, C, v, g, h1, h2, h3⟩ := h
  refine (sync_calls h1 (fun k hk => (h2 k hk).2) hn hfull).mono ?_
  rintro e w' ⟨rfl, k⟩
  exact ⟨rfl, Jg.flp h2 h3 k⟩
theorem jsector (h : Jg w0 F B n st w) (d : UInt8) (odd : Bool) :
    Calls Try.prog 17 #[.int .u8 (d.toNat : Int), .bool odd] w fun e w' => e = .returned (.string (sect d odd)) ∧ Jg w0 F B n st w' := by
  refine (sector_calls d odd w).mono ?_
  rintro e w' ⟨rfl, k⟩
  exact ⟨rfl, h.below k⟩
end

set_option maxHeartbeats 4000000 in
set_option maxRecDepth 100000 in
theorem wakes_calls (w : World) : Calls Try.prog 16 #[] w fun e w' => e = .returned (.bool true) ∧ Below w.heap.size w w' := by
  obtain ⟨A, hA⟩ : ∃ A, A = sect 97 false := ⟨_, rfl⟩
  obtain ⟨D, hD⟩ : ∃ D, D = sect 98 false := ⟨_, rfl⟩
  have e1 : putE 2 0 A = 0 := by rw [hA]; decide +kernel
  have e2 : putE 2 0 D = 0 := by rw [hD]; decide +kernel
  have s2 : putS 2 (putS 2 (fresh 2) 0 A true) 0 D false = [(A, [z64, A, D]), (z64, [z64])] := by rw [hA, hD]; decide +kernel
  have s1 : putS 2 (fresh 2) 0 A true = [(A, [z64, A]), (z64, [z64])] := by rw [hA]; decide +kernel
  have s3 : upto [(A, [z64, A, D]), (z64, [z64])] 2 = [(A, [A]), (z64, [z64])] := rfl
  have b1 : has D [z64, A, D] = true := by rw [hA, hD]; decide +kernel
  have b2 : has D [A] = false := by rw [hA, hD]; decide +kernel
  rw [s1] at s2
  have hS := fun {F B : Nat} {st : St} {wx : World} (h : Jg w F B 2 st wx) => jsector h 97 false
  have hT := fun {F B : Nat} {st : St} {wx : World} (h : Jg w F B 2 st wx) => jsector h 98 false
  rw [← hA] at hS
  rw [← hD] at hT
  have HS : Hid (∀ F B st wx, Jg w F B 2 st wx → Calls Try.prog 17 #[.int .u8 97, .bool false] wx fun e w' => e = .returned (.string A) ∧ Jg w F B 2 st w') := Lib.hid (fun F B st wx h => hS h)
  have HT : Hid (∀ F B st wx, Jg w F B 2 st wx → Calls Try.prog 17 #[.int .u8 98, .bool false] wx fun e w' => e = .returned (.string D) ∧ Jg w F B 2 st w') := Lib.hid (fun F B st wx h => hT h)
  have HP1 : Hid (∀ F B wx, Jg w F B 2 (fresh 2) wx → Calls Try.prog 20 #[.pointer (some ⟨F, 0, none⟩), .int .i64 0, .string A, .bool true] wx fun e w' => e = .returned (.int .i64 0) ∧ Jg w F B 2 [(A, [z64, A]), (z64, [z64])] w') := Lib.hid (fun F B wx h => by
    have := jput h (by omega) rfl (by intro x hx; simp [fresh] at hx; subst hx; simp) 0 A true
    rw [e1, s1] at this; exact this)
  have HP2 : Hid (∀ F B wx, Jg w F B 2 [(A, [z64, A]), (z64, [z64])] wx → Calls Try.prog 20 #[.pointer (some ⟨F, 0, none⟩), .int .i64 0, .string D, .bool false] wx fun e w' => e = .returned (.int .i64 0) ∧ Jg w F B 2 [(A, [z64, A, D]), (z64, [z64])] w') := Lib.hid (fun F B wx h => by
    have := jput h (by omega) rfl (by intro x hx; simp at hx; rcases hx with rfl | rfl <;> simp) 0 D false
    rw [e2, s2] at this; exact this)
  have HG : Hid (∀ F B wx, Jg w F B 2 [(A, [z64, A, D]), (z64, [z64])] wx → Calls Try.prog 19 #[.pointer (some ⟨F, 0, none⟩), .int .i64 0] wx fun e w' => e = .returned (.tuple #[.string A, .int .i64 0]) ∧ Jg w F B 2 [(A, [z64, A, D]), (z64, [z64])] w') := Lib.hid (fun F B wx h => jget h (by omega) 0 (A, [z64, A, D]) rfl)
  have HM1 : Hid (∀ F B wx, Jg w F B 2 [(A, [z64, A, D]), (z64, [z64])] wx → Calls Try.prog 36 #[.pointer (some ⟨F, 0, none⟩), .int .i64 0, .string D] wx fun e w' => e = .returned (.bool true) ∧ Jg w F B 2 [(A, [z64, A, D]), (z64, [z64])] w') := Lib.hid (fun F B wx h => by
    have := jmay h (by omega) 0 (A, [z64, A, D]) rfl D
    rw [b1] at this; exact this)
  have HSY : Hid (∀ F B wx, Jg w F B 2 [(A, [z64, A, D]), (z64, [z64])] wx → Calls Try.prog 18 #[.pointer (some ⟨F, 0, none⟩)] wx fun e w' => e = .returned (.tuple #[]) ∧ Jg w F B 2 [(A, [A]), (z64, [z64])] w') := Lib.hid (fun F B wx h => by
    have := jsync h (by omega) rfl
    rw [s3] at this; exact this)
  have HM2 : Hid (∀ F B wx, Jg w F B 2 [(A, [A]), (z64, [z64])] wx → Calls Try.prog 36 #[.pointer (some ⟨F, 0, none⟩), .int .i64 0, .string D] wx fun e w' => e = .returned (.bool false) ∧ Jg w F B 2 [(A, [A]), (z64, [z64])] w') := Lib.hid (fun F B wx h => by
    have := jmay h (by omega) 0 (A, [A]) rfl D
    rw [b2] at this; exact this)
  clear e1 e2 s1 s2 s3 b1 b2 hS hT hA hD
  go_enter Try.func16, Try.ntmps16
  go_wp2_with fail
  refine (jnew 2 (by omega) (by omega) (br w)).mono ?_
  rintro e w1 ⟨F, B, rfl, h1⟩
  go_wp2_with fail
  refine (HS.out _ _ _ _ h1).mono ?_
  rintro e w2 ⟨rfl, h2⟩
  go_wp2_with fail
  refine (HP1.out _ _ _ h2).mono ?_
  rintro e w3 ⟨rfl, h3⟩
  go_wp2_with fail
  refine (HT.out _ _ _ _ h3).mono ?_
  rintro e w4 ⟨rfl, h4⟩
  go_wp2_with fail
  refine (HP2.out _ _ _ h4).mono ?_
  rintro e w5 ⟨rfl, h5⟩
  go_wp2_with fail
  refine (HG.out _ _ _ h5).mono ?_
  rintro e w6 ⟨rfl, h6⟩
  go_wp2_with fail
  refine (HT.out _ _ _ _ h6).mono ?_
  rintro e w7 ⟨rfl, h7⟩
  go_wp2_with fail
  refine (HM1.out _ _ _ h7).mono ?_
  rintro e w8 ⟨rfl, h8⟩
  go_wp2_with fail
  refine (HSY.out _ _ _ h8).mono ?_
  rintro e w9 ⟨rfl, h9⟩
  go_wp2_with fail
  refine (HS.out _ _ _ _ h9).mono ?_
  rintro e w10 ⟨rfl, h10⟩
  go_wp2_with fail
  refine (HT.out _ _ _ _ h10).mono ?_
  rintro e w11 ⟨rfl, h11⟩
  go_wp2_with fail
  refine (HM2.out _ _ _ h11).mono ?_
  rintro e w12 ⟨rfl, h12⟩
  go_wp2_with fail
  refine (jblocks h12 (by omega)).mono ?_
  rintro e w13 ⟨rfl, h13⟩
  go_wp2
  go_ret
  exact ⟨rfl, h13.bel⟩
end Go.Proofs.Ytahdhkhgokggbaa.Judge
