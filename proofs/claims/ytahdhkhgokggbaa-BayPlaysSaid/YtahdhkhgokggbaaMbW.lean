/- A member's calls where they are done; what the document fixes. -/
import Derived.Test.YtahdhkhgokggbaaSectorM
import Derived.Test.YtahdhkhgokggbaaMbCounts
import Derived.Laws.StructEq
namespace Go.Proofs.Ytahdhkhgokggbaa.Member
open Go.RowKit Go.Proofs.Ytahdhkhgokggbaa.Mem Go.Proofs.Ytahdhkhgokggbaa.Sep
open Go.Proofs.YtahdhkhgokggbaaW.PrintWords hiding bt
set_option linter.unusedVariables false
set_option linter.unusedSimpArgs false

section
variable {w0 w : World} {F : Nat} {m : Mb} {L : List Asn} {n : Nat}
theorem Mb.may_live (m : Mb) (j : Nat) (hd : m.dead = false) (hj : j < m.now.length) : m.may j = 0 := by
  unfold Mb.may; rw [hd, if_neg (by decide), if_neg (by omega)]
theorem write_yes (h : Sp w0 (member F n m :: L) w) (hd : m.dead = false) (j : Nat) (hj : j < n) (s : ByteArray) (hs : s.size = 64) (hq : m.q.length < 1000000) (c : Int) (hc : wrap64 (m.w + 1) = c) :
    Calls Try.prog 24 #[.pointer (some ⟨F, 0, none⟩), .int .i64 (j : Nat), .string s] w fun e w' => e = .returned (.int .i64 0) ∧ Sp w0 (member F n { m with now := m.now.set j s, q := m.q ++ [(j, s)], w := c } :: L) w' := by
  subst hc
  have hm := m.may_live j hd (by rw [(mbOk h).now]; exact hj)
  have hE : m.putE (j : Nat) s = 0 := by unfold Mb.putE; rw [hm, if_neg (by omega), if_neg (by omega)]
  have hP : m.put (j : Nat) s = { m with now := m.now.set j s, q := m.q ++ [(j, s)], w := wrap64 (m.w + 1) } := by unfold Mb.put; rw [if_pos hE, Int.toNat_natCast]
  have := write_calls h hq (j : Nat) s
  rw [hE, hP] at this; exact this
theorem read_yes (h : Sp w0 (member F n m :: L) w) (hd : m.dead = false) (j : Nat) (u : ByteArray) (hu : m.now[j]? = some u) (c : Int) (hc : wrap64 (m.r + 1) = c) :
    Calls Try.prog 27 #[.pointer (some ⟨F, 0, none⟩), .int .i64 (j : Nat)] w fun e w' => e = .returned (.tuple #[.string u, .int .i64 0]) ∧ Sp w0 (member F n { m with r := c } :: L) w' := by
  subst hc
  have hm := m.may_live j hd (List.getElem?_eq_some_iff.1 hu).1
  have hR : m.read j = { m with r := wrap64 (m.r + 1) } := by unfold Mb.read; rw [if_pos hm]
  have hG : m.get j = u := by unfold Mb.get; rw [if_pos hm, Int.toNat_natCast, List.getD_eq_getElem?_getD, hu]; rfl
  have := read_calls h j
  rw [hm, hR, hG] at this; exact this
theorem flush_yes (h : Sp w0 (member F n m :: L) w) (hd : m.dead = false) (c : Int) (hc : wrap64 (m.f + 1) = c) :
    Calls Try.prog 26 #[.pointer (some ⟨F, 0, none⟩)] w fun e w' => e = .returned (.int .i64 0) ∧ Sp w0 (member F n { m with las := m.now, q := [], f := c } :: L) w' := by
  subst hc
  have hE : m.flushE = 0 := by unfold Mb.flushE; rw [hd]; rfl
  have hP : m.flush = { m with las := m.now, q := [], f := wrap64 (m.f + 1) } := by unfold Mb.flush; rw [hd]; rfl
  have := flush_calls h
  rw [hE, hP] at this; exact this
theorem crash_yes (h : Sp w0 (member F n m :: L) w) (hd : m.dead = false) (hq : m.q.length ≤ 1000000) (a : Option Addr) (c : Nat) (K : List Nat) (hKl : K.length ≤ 9223372036854775807) (hK : ∀ L' w', Sp w0 (L' ++ L) w' → U64s w' a K) :
    Calls Try.prog 28 #[.pointer (some ⟨F, 0, none⟩), .slice a K.length c] w fun e w' => e = .returned (.tuple #[]) ∧ Sp w0 (member F n { m with las := lasting K 0 m.q m.las, now := lasting K 0 m.q m.las, q := [] } :: L) w' := by
  have hP : m.crash K = { m with las := lasting K 0 m.q m.las, now := lasting K 0 m.q m.las, q := [] } := by unfold Mb.crash; rw [hd]; rfl
  have := crash_calls h hq a c K hKl hK
  rw [hP] at this; exact this
end
theorem wr1 : wrap64 (0 + 1) = 1 := by decide +kernel
theorem wr2 : wrap64 (1 + 1) = 2 := by decide +kernel
theorem wr3 : wrap64 (2 + 1) = 3 := by decide +kernel
attribute [local irreducible] z64
set_option maxHeartbeats 8000000 in
set_option maxRecDepth 100000 in
theorem wakes_calls (w : World) : Calls Try.prog 23 #[] w fun e w' => e = .returned (.bool true) ∧ Below w.heap.size w w' := by
  obtain ⟨A, hA⟩ : ∃ A, A = sect 97 false := ⟨_, rfl⟩
  obtain ⟨B, hB⟩ : ∃ A, A = sect 98 false := ⟨_, rfl⟩
  obtain ⟨C, hC⟩ : ∃ A, A = sect 99 false := ⟨_, rfl⟩
  have sA : A.size = 64 := by rw [hA, sect_size]; rfl
  have sB : B.size = 64 := by rw [hB, sect_size]; rfl
  have sC : C.size = 64 := by rw [hC, sect_size]; rfl
  have HA : Hid (∀ wx, Calls Try.prog 25 #[.int .u8 97, .bool false] wx fun e w' => e = .returned (.string A) ∧ Below wx.heap.size wx w') := Lib.hid (fun wx => hA ▸ sector_calls 97 false wx)
  have HB : Hid (∀ wx, Calls Try.prog 25 #[.int .u8 98, .bool false] wx fun e w' => e = .returned (.string B) ∧ Below wx.heap.size wx w') := Lib.hid (fun wx => hB ▸ sector_calls 98 false wx)
  have HC : Hid (∀ wx, Calls Try.prog 25 #[.int .u8 99, .bool false] wx fun e w' => e = .returned (.string C) ∧ Below wx.heap.size wx w') := Lib.hid (fun wx => hC ▸ sector_calls 99 false wx)
  have HZ := Lib.hid (And.intro sA (And.intro sB sC))
  clear hA hB hC sA sB sC
  go_enter Try.func23, Try.ntmps23
  go_wp2_with fail
  refine (new_calls (Sp.start w) 3).mono ?_
  rintro e w1 ⟨F, rfl, h1⟩
  have h1 : Sp w [member F 3 (Mb.fresh 3)] w1 := h1
  go_wp2_with fail
  refine (HA.out _).mono ?_
  rintro e w2 ⟨rfl, b2⟩
  have H2 := Lib.hid (write_yes (h1.step b2) rfl 0 (by omega) A HZ.out.1 (by decide) 1 wr1)
  clear h1 b2
  go_wp2_with fail
  refine H2.out.mono ?_
  rintro e w3 ⟨rfl, h3⟩
  have H3 := Lib.hid (flush_yes h3 rfl 1 wr1)
  clear h3 H2
  go_wp2_with fail
  refine H3.out.mono ?_
  rintro e w4 ⟨rfl, h4⟩
  go_wp2_with fail
  refine (HB.out _).mono ?_
  rintro e w5 ⟨rfl, b5⟩
  have H5 := Lib.hid (write_yes (h4.step b5) rfl 0 (by omega) B HZ.out.2.1 (by simp) 2 wr2)
  clear h4 b5 H3
  go_wp2_with fail
  refine H5.out.mono ?_
  rintro e w6 ⟨rfl, h6⟩
  go_wp2_with fail
  refine (HC.out _).mono ?_
  rintro e w7 ⟨rfl, b7⟩
  have H7 := Lib.hid (write_yes (h6.step b7) rfl 0 (by omega) C HZ.out.2.2 (by simp) 3 wr3)
  clear h6 b7 H5
  go_wp2_with fail
  refine H7.out.mono ?_
  rintro e w8 ⟨rfl, h8⟩
  have h8 : Sp w [member F 3 ⟨0, 3, 1, 0, [A, z64, z64], [C, z64, z64], [(0, B), (0, C)], false⟩] w8 := h8
  have H8 := Lib.hid (read_yes h8 rfl 0 C rfl 1 wr1)
  clear h8 H7
  go_wp2_with fail
  refine H8.out.mono ?_
  rintro e w9 ⟨rfl, h9⟩
  have h9 : Sp w [member F 3 ⟨1, 3, 1, 0, [A, z64, z64], [C, z64, z64], [(0, B), (0, C)], false⟩] w9 := h9
  have h10 := (h9.new #[.int .u64 1] 52).front 1 rfl
  have H10 := Lib.hid (crash_yes h10 rfl (by simp) (some ⟨w9.heap.size, 0, none⟩) 1 [1] (by decide) (fun L' w' hs i x hx => by
    cases i with
    | zero =>
      obtain rfl : 1 = x := by simpa using hx
      exact ⟨_, rfl, by decide, by rw [Addr.add_mid, (hs.blk (b := w9.heap.size) (C := #[.int .u64 1]) (T := 52) (List.mem_append_right _ (List.mem_cons_self ..))).cell]; rfl⟩
    | succ i => simp at hx))
  clear h9 h10 H8
  go_wp2_with fail
  refine H10.out.mono ?_
  rintro e w11 ⟨rfl, h11⟩
  have hl : lasting [1] 0 [(0, B), (0, C)] [A, z64, z64] = [B, z64, z64] := by
    have e0 : kept [1] 0 = true := by decide
    have e1 : kept [1] 1 = false := by decide
    simp [lasting, e0, e1]
  have h11 : Sp w [member F 3 ⟨1, 3, 1, 0, lasting [1] 0 [(0, B), (0, C)] [A, z64, z64], lasting [1] 0 [(0, B), (0, C)] [A, z64, z64], [], false⟩, blk _ _ _] w11 := h11
  rw [hl] at h11
  have H11 := Lib.hid (read_yes h11 rfl 0 B rfl 2 wr2)
  clear h11 H10 hl
  go_wp2_with fail
  refine H11.out.mono ?_
  rintro e w12 ⟨rfl, h12⟩
  clear H11
  go_wp2_with fail
  refine (HC.out _).mono ?_
  rintro e w13 ⟨rfl, b13⟩
  have h13 := h12.step b13
  clear h12 b13
  go_wp2_with fail
  refine (HB.out _).mono ?_
  rintro e w14 ⟨rfl, b14⟩
  have h14 := h13.step b14
  have H14 := Lib.hid (counts_calls h14)
  clear h13 b14 h14
  go_wp2_with fail
  refine H14.out.mono ?_
  rintro e w15 ⟨rfl, h15⟩
  have HBEL := Lib.hid h15.bel
  clear h15 H14
  go_wp2
  go_ret
  exact ⟨rfl, HBEL.out⟩
end Go.Proofs.Ytahdhkhgokggbaa.Member
