/- The law of one mark, walked: a mark with one byte another one is none. -/
import Derived.Test.YtmpbohbecidkhaaRecArg
import Derived.StillTailTactics
namespace Go.Proofs.Ytmpbohbecidkhaa.RecordOneW
open Go.RowKit Go.Proofs.Ytmpbohbecidkhaa.Mem Go.Proofs.Ytmpbohbecidkhaa.Sep Go.Proofs.Ytmpbohbecidkhaa.Opn Go.Proofs.Ytmpbohbecidkhaa.B8 Go.Proofs.Ytmpbohbecidkhaa.CrcS Go.Proofs.Ytmpbohbecidkhaa.Rec Go.Proofs.Ytmpbohbecidkhaa.Bits
open Go.Proofs.Ytmpbohbecidkhaa.App (Sp.newAt cell_newN frozen_newN)
open Go.Proofs.YtmpbohbecidkhaaW.PrintWords hiding bt
set_option linter.unusedVariables false
set_option linter.unusedSimpArgs false
attribute [local irreducible] Rec.get Rec.getE bts by8 Mk.put Mk.putE Mk.sec
theorem xor_zero_iff (x b : Nat) : x ^^^ b = x ↔ b = 0 := by
  constructor
  · intro h
    have := congrArg (x ^^^ ·) h
    simp only [← Nat.xor_assoc, Nat.xor_self, Nat.zero_xor] at this
    exact this
  · intro h; rw [h, Nat.xor_zero]
theorem tmod_at (M K : Nat) (q : Int) (h : q = (M : Int)) : Int.tmod q (K : Int) = ((M % K : Nat) : Int) := by
  subst h; rw [Int.tmod_eq_emod_of_nonneg (by omega)]; omega
set_option maxHeartbeats 8000000 in
set_option maxRecDepth 100000 in
theorem walk (q n : Int) (a2 : Array Value) (W : World) (hq : (Lit.int .i64 q).wf = true) (hn : (Lit.int .i64 n).wf = true) (hr : Rd W spoilSh a2.toList) :
    Calls Try.prog 12 #[.int .i64 q, .int .i64 n, .agg a2] W fun e w' => e = .returned (.bool true) ∧ Below W.heap.size W w' := by
  obtain ⟨s, t, b1, x, y, z, hb1, ws, wt, rfl⟩ := rd_spoil hr
  obtain ⟨j, hj, hand⟩ := at63 t
  have HS := Lib.hid (Sp.newAt (Sp.start W) #[.int .i64 s, .int .i64 t, .int .u8 (b1 : Nat), .bool x, .bool y, .bool z] 85 W.heap.size rfl)
  have HA := Lib.hid (And.intro hj hand)
  clear hr hq hn ws wt hj hand
  go_enter Try.func12, Try.ntmps12
  go_upto_region 1 with fail
  go_cut [0, 1] (fun x0 x1 wx => ∃ Q N : Nat, Hid (1 ≤ Q ∧ Q ≤ 9007199254740992 ∧ 1 ≤ N ∧ N ≤ 48) ∧ x0 = .int .i64 (Q : Nat) ∧ x1 = .int .i64 (N : Nat) ∧ Sp W [blk W.heap.size #[.int .i64 s, .int .i64 t, .int .u8 (b1 : Nat), .bool x, .bool y, .bool z] 85] wx)
  case first =>
    obtain ⟨A, hA⟩ : ∃ A : Nat, max 0 q = (A : Int) := ⟨(max 0 q).toNat, by omega⟩
    obtain ⟨B, hB⟩ : ∃ B : Nat, max 0 n = (B : Int) := ⟨(max 0 n).toNat, by omega⟩
    have t1 := tmod_at A 9007199254740992 (A : Int) rfl
    have t2 := tmod_at B 48 (B : Int) rfl
    obtain ⟨C, hC⟩ : ∃ C, C = A % 9007199254740992 := ⟨_, rfl⟩
    obtain ⟨D, hD⟩ : ∃ D, D = B % 48 := ⟨_, rfl⟩
    rw [← hC] at t1
    rw [← hD] at t2
    have c1 : (C : Int) < 9007199254740992 := by omega
    have d1 : (D : Int) < 48 := by omega
    have t1 : Int.tmod (A : Int) 9007199254740992 = (C : Int) := t1
    have t2 : Int.tmod (B : Int) 48 = (D : Int) := t2
    have e1 : (1 : Int) + (C : Int) = ((1 + C : Nat) : Int) := by omega
    have e2 : (1 : Int) + (D : Int) = ((1 + D : Nat) : Int) := by omega
    have w1 : IntKind.i64.wrap (1 + (C : Int)) = ((1 + C : Nat) : Int) := by rw [e1]; exact IntWalk.i64_in _ (by omega)
    have w2 : IntKind.i64.wrap (1 + (D : Int)) = ((1 + D : Nat) : Int) := by rw [e2]; exact IntWalk.i64_in _ (by omega)
    obtain ⟨C', hC'⟩ : ∃ C', C' = 1 + C := ⟨_, rfl⟩
    obtain ⟨D', hD'⟩ : ∃ D', D' = 1 + D := ⟨_, rfl⟩
    rw [← hC'] at e1 w1
    rw [← hD'] at e2 w2
    have HCD := Lib.hid (show 1 ≤ C' ∧ C' ≤ 9007199254740992 ∧ 1 ≤ D' ∧ D' ≤ 48 by omega)
    clear hC hD hC' hD'
    go_wp2
    go_meet
    case rel => exact ⟨C', D', HCD, rfl, rfl, HS.out⟩
  case rest =>
    obtain ⟨Q, N, HQ, rfl, rfl, h1⟩ := hcut
    clear HS
    generalize hr : W.heap.size = r at h1 ⊢
    have hg : (Mk.mk (Q : Int) (N : Int)).good = true := (Mk.good_iff _).2 ⟨by have := HQ.out; dsimp only; omega, by have := HQ.out; dsimp only; omega, by have := HQ.out; dsimp only; omega, by have := HQ.out; dsimp only; omega⟩
    have hput := fun w => mput_calls ⟨(Q : Int), (N : Int)⟩ w
    have p1 : (Mk.mk (Q : Int) N).put = (Mk.mk (Q : Int) N).sec := by unfold Mk.put; rw [hg]; rfl
    have p2 : (Mk.mk (Q : Int) N).putE = 0 := by unfold Mk.putE; rw [hg]; rfl
    rw [p1, p2] at hput
    obtain ⟨Y, hY⟩ : ∃ Y, Y = bts (Mk.mk (Q : Int) N).sec := ⟨_, rfl⟩
    have hYs : Y.size = 64 := by rw [hY, bts_size]; exact Mk.sec_length _
    have hY8 : by8 Y = (Mk.mk (Q : Int) N).sec := by rw [hY]; exact by8_bts _ (Mk.sec_lt _)
    rw [← hY] at hput
    have hj := HA.out.1
    have hand := HA.out.2
    obtain ⟨x0, hx⟩ : ∃ x, (by8 Y)[j]? = some x := ⟨_, List.getElem?_eq_getElem (by rw [by8_length]; omega)⟩
    have hx256 : x0 < 256 := by8_lt Y x0 (List.mem_of_getElem? hx)
    have hxor := xor_u8 x0 b1 hx256 hb1
    obtain ⟨y0, hy⟩ : ∃ y, y = x0 ^^^ b1 := ⟨_, rfl⟩
    rw [← hy] at hxor
    have hy256 : y0 < 256 := by rw [hy]; exact Nat.xor_lt_two_pow (n := 8) hx256 hb1
    obtain ⟨T, hT⟩ : ∃ T, T = bts ((by8 Y).set j y0) := ⟨_, rfl⟩
    have hset8 : ∀ b ∈ (by8 Y).set j y0, b < 256 := fun b hb => by
      rcases List.mem_or_eq_of_mem_set hb with hb | hb
      · exact by8_lt Y b hb
      · omega
    have hT8 : by8 T = (by8 Y).set j y0 := by rw [hT]; exact by8_bts _ hset8
    have hTs : T.size = 64 := by rw [hT, bts_size, List.length_set, by8_length]; exact hYs
    have hget := fun w => mget_calls T (by omega) w
    obtain ⟨E, V0, V1, hE, hget⟩ : ∃ E V0 V1 : Int, ((b1 = 0 ∧ E = 0 ∧ V0 = (Q : Int) ∧ V1 = (N : Int)) ∨ (b1 ≠ 0 ∧ E ≠ 0)) ∧ ∀ w, Calls Try.prog 41 #[.string T] w fun e w' => e = .returned (.tuple #[.agg #[.int .i64 V0, .int .i64 V1], .int .i64 E]) ∧ Below w.heap.size w w' := by
      refine ⟨_, _, _, ?_, hget⟩
      by_cases hb : b1 = 0
      · left
        have e : by8 T = (Mk.mk (Q : Int) N).sec := by
          have hyx : y0 = x0 := by rw [hy]; exact (xor_zero_iff x0 b1).2 hb
          rw [hT8, hyx, hY8]
          rw [hY8] at hx
          obtain ⟨h1, h2⟩ := List.getElem?_eq_some_iff.1 hx
          rw [← h2, List.set_getElem_self]
        rw [e, (get_sec hg).1, (get_sec hg).2]
        exact ⟨hb, rfl, rfl, rfl⟩
      · right
        refine ⟨hb, ?_⟩
        rw [hT8, hY8]
        rw [hY8] at hx
        exact get_spoilt hg j x0 y0 hx hy256 (by rw [hy]; intro e; exact hb ((xor_zero_iff x0 b1).1 e))
    have HP := Lib.hid hput
    have HGET := Lib.hid hget
    have HE := Lib.hid hE
    have HX := Lib.hid (And.intro hx (And.intro hT (And.intro hset8 hYs)))
    have j0 : (0 : Int) ≤ (j : Int) := by omega
    have j1 : (j : Int) < (Y.size : Int) := by omega
    have j2 : (j : Int) < 64 := by omega
    have HB := Lib.hid h1
    clear hg p1 p2 hput hget hE hx hx256 hy hy256 hT hset8 hT8 hTs hY hYs hY8 hj h1 HA hr
    go_wp2_with fail
    refine (HP.out _).mono ?_
    rintro e w2 ⟨rfl, hb2⟩
    have HB2 := Lib.hid (HB.out.step hb2)
    clear hb2 HB
    go_wp2_with fail
    refine (wakes_calls _).mono ?_
    rintro e w3 ⟨rfl, hb3⟩
    have hb4 := HB2.out.step hb3
    obtain ⟨v9, w', hrb, hsp⟩ := Brow.Sp.bytes_of hb4 Y (by have := HX.out.2.2.2; omega)
    rw [HX.out.2.2.2] at hsp
    have hbx := hsp.blk (b := r) (C := #[.int .i64 s, .int .i64 t, .int .u8 (b1 : Nat), .bool x, .bool y, .bool z]) (T := 85) (List.mem_cons_of_mem _ (List.mem_cons_self ..))
    have c0 : w'.cell? ⟨r, 1, none⟩ = some (.int .i64 t) := hbx.cell 1
    have c2 : w'.cell? ⟨r, 2, none⟩ = some (.int .u8 (b1 : Nat)) := hbx.cell 2
    obtain ⟨g, cap, rfl, ⟨x', hx', cx⟩, fx, hset⟩ := Brow.Sp.brow_set hsp j y0 (by omega)
    obtain rfl : x0 = x' := by rw [HX.out.1] at hx'; exact Option.some.inj hx'
    have hset := hset.drew
    have htx := Brow.Sp.brow_text hset HX.out.2.2.1
    rw [← HX.out.2.1] at htx
    have H7 := Lib.hid hset.tail
    clear hb3 hb4 HB2 hsp hbx hx' hset
    go_wp2_with fail
    go_upto_region 6 with fail
    go_still_tail 10, (by kernel_rfl)
    change wpList _ _ _ _ _ w'.drew
    go_wp2_with fail
    refine (HGET.out _).mono ?_
    rintro e w8 ⟨rfl, hb8⟩
    have h9 := (H7.out.step hb8).any (.cells #[.int .i64 V0, .int .i64 V1] 88)
    have cb1 : (w8.alloc (.cells #[.int .i64 V0, .int .i64 V1] 88)).cell? ⟨r, 2, none⟩ = some (.int .u8 (b1 : Nat)) := (h9.blk (b := r) (C := #[.int .i64 s, .int .i64 t, .int .u8 (b1 : Nat), .bool x, .bool y, .bool z]) (T := 85) (List.mem_cons_self ..)).cell 2
    have H9 := Lib.hid h9.bel
    clear hb8 h9 H7 c0 c2 cx fx htx hrb
    rcases HE.out with ⟨rfl, rfl, rfl, rfl⟩ | ⟨hb, hE⟩
    · go_wp2
      go_ret
      exact ⟨by first | rfl | simp, H9.out⟩
    · have q1 : (E == 0) = false := beq_eq_false_iff_ne.2 hE
      have q2 : (E != 0) = true := bne_iff_ne.2 hE
      have q3 : ((b1 : Int) == 0) = false := beq_eq_false_iff_ne.2 (by omega)
      clear hb hE
      go_wp2
      go_ret
      exact ⟨by first | rfl | simp, H9.out⟩
end Go.Proofs.Ytmpbohbecidkhaa.RecordOneW
