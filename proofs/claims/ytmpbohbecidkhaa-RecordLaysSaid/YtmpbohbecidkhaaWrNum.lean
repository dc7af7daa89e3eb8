/- A writer's number and fill, walked. -/
import Derived.Test.YtmpbohbecidkhaaWriter
import Derived.Test.YtmpbohbecidkhaaLabB
import Derived.Test.YtmpbohbecidkhaaRecB
import Derived.StillTailTactics
namespace Go.Proofs.Ytmpbohbecidkhaa.Wr
open Go.RowKit Go.Proofs.Ytmpbohbecidkhaa.Mem Go.Proofs.Ytmpbohbecidkhaa.Sep Go.Proofs.Ytmpbohbecidkhaa.B8 Go.Proofs.Ytmpbohbecidkhaa.CrcS Go.Proofs.Ytmpbohbecidkhaa.Num Go.Proofs.Ytmpbohbecidkhaa.Lab
open Go.Proofs.YtmpbohbecidkhaaW.PrintWords hiding bt
set_option linter.unusedVariables false
set_option linter.unusedSimpArgs false
section
variable {w0 w : World} {L : List Asn} {b : Nat} {l : List Nat}
theorem Sp.wrt_cast {l' : List Nat} (h : Sp w0 (wrt b l :: L) w) (e : l = l') : Sp w0 (wrt b l' :: L) w := by subst e; exact h
/-- What a call makes of its own lies apart. -/
theorem Sp.lift {w' : World} {M : List Asn} (h : Sp w0 L w) (k : Sp w M w') : Sp w0 (M ++ L) w' := by
  have hs := h.size
  obtain ⟨⟨R, h1, h2⟩, h3⟩ := h
  obtain ⟨⟨R', k1, k2⟩, k3⟩ := k
  have h5 := h1.lt
  refine ⟨⟨fun i => R' i ∨ R i, All.append.2 ⟨R', R, k1, h1.same (fun i hi => k3.block i (h5 i hi)), fun i hi hj => ?_, fun i => Iff.rfl⟩, fun i hi => ?_⟩, bt h3 k3⟩
  · have := k2 i hi; have := h5 i hj; omega
  · rcases hi with hi | hi
    · have := k2 i hi; omega
    · exact h2 i hi
attribute [local irreducible] bts big num
set_option maxHeartbeats 4000000 in
set_option maxRecDepth 100000 in
theorem num_calls (n k : Nat) (hn : n < 18446744073709551616) (hk8 : k ≤ 8) (h : Sp w0 (wrt b l :: L) w) (hl : l.length ≤ 90000) :
    Calls Try.prog 65 #[.pointer (some ⟨b, 0, none⟩), .int .u64 (n : Nat), .int .i64 (k : Nat)] w fun e w' => e = .returned (.tuple #[]) ∧ Sp w0 (wrt b (l ++ big k n) :: L) w' := by
  have H0 := Lib.hid h
  clear h
  go_enter Try.func65, Try.ntmps65
  go_wp2
  go_loopw [6] (fun i wr => ∃ j : Nat, j ≤ k ∧ i = .int .i64 ((j : Int) - 1) ∧ Sp w0 (wrt b (l ++ (big k n).take (k - j)) :: L) wr) (fun i _ => (intOf i + 1).toNat)
  case atStart => exact ⟨k, Nat.le_refl _, by first | rfl | go_num, by rw [Nat.sub_self, List.take_zero, List.append_nil]; exact H0.out⟩
  case round =>
    clear H0
    obtain ⟨j, hj, rfl, h1⟩ := hrel
    cases j with
    | succ J =>
      obtain ⟨c, hc⟩ : ∃ c, c = n / 256 ^ J % 256 := ⟨_, rfl⟩
      have hat : (big k n)[k - (J + 1)]? = some c := by
        rw [big_at _ _ _ (by omega), hc, show k - 1 - (k - (J + 1)) = J by omega]
      have hlen : (l ++ (big k n).take (k - (J + 1))).length ≤ 100000 := by rw [List.length_append, List.length_take, big_length]; omega
      have HB := Lib.hid (byte_calls c h1.drew hlen)
      have e3 : (n : Int) / 2 ^ (8 * J) % 256 = (c : Int) := by rw [byte_at n k (k - 1 - J) J (by omega), hc]
      have ej : ((J + 1 : Nat) : Int) - 1 = (J : Int) := by omega
      have e2 : ((8 : Int) * (J : Int)).toNat = 8 * J := by omega
      have e4 : IntKind.i64.wrap ((8 : Int) * (J : Int)) = 8 * (J : Int) := IntWalk.i64_in _ (by omega)
      have hJ8 : (8 : Int) * (J : Int) ≤ 64 := by omega
      have hJ0 : (0 : Int) ≤ (8 : Int) * (J : Int) := by omega
      have i0 : (0 : Int) ≤ (J : Int) := by omega
      have d0 : decide ((0 : Int) ≤ (J : Int)) = true := decide_eq_true i0
      have HA := Lib.hid (And.intro hat hj)
      clear hc hat hlen h1
      rw [ej]
      go_wp2_with fail
      go_still_tail 8, (by kernel_rfl)
      change wpList _ _ _ _ _ wr.drew
      go_wp2_with fail
      first | rw [e3] | skip
      refine HB.out.mono ?_
      rintro e w2 ⟨rfl, h2⟩
      have H2 := Lib.hid h2
      clear h2 HB
      go_wp2
      go_roundw
      case measure => simp [intOf]
      case rel => exact ⟨J, by have := HA.out.2; omega, by first | rfl | go_num, Sp.wrt_cast H2.out (by
          have e := HA.out.1
          rw [List.append_assoc]
          congr 1
          rw [show k - J = k - (J + 1) + 1 by have := HA.out.2; omega, List.take_add_one, e]; rfl)⟩
    | zero =>
      have H1 := Lib.hid (Sp.wrt_cast h1 (l' := l ++ big k n) (by rw [Nat.sub_zero, List.take_of_length_le (by rw [big_length]; exact Nat.le_refl _)]))
      clear h1
      go_wp2
      go_end0
      exact ⟨rfl, H1.out⟩
set_option maxHeartbeats 4000000 in
set_option maxRecDepth 100000 in
theorem fill_calls (m : Nat) (h : Sp w0 (wrt b l :: L) w) (hm : l.length ≤ m) (hm2 : m ≤ 1000) :
    Calls Try.prog 67 #[.pointer (some ⟨b, 0, none⟩), .int .i64 (m : Nat)] w fun e w' => e = .returned (.tuple #[]) ∧ Sp w0 (wrt b (l ++ zeros (m - l.length)) :: L) w' := by
  obtain ⟨N, hN⟩ : ∃ N, N = l.length := ⟨_, rfl⟩
  have hlen : ∀ w, Sp w0 (wrt b l :: L) w → Calls Try.prog 76 #[.pointer (some ⟨b, 0, none⟩)] w fun e w' => e = .returned (.int .i64 N) ∧ w' = w := fun w h => by rw [hN]; exact len_calls h
  rw [← hN]
  obtain ⟨C, hC⟩ : ∃ C, C = m - N := ⟨_, rfl⟩
  rw [← hC]
  have e1 : max (0 : Int) ((m : Int) - (N : Int)) = (C : Int) := by omega
  have e2 : IntKind.i64.wrap ((m : Int) - (N : Int)) = (m : Int) - (N : Int) := IntWalk.i64_in _ (by omega)
  have HZ := Lib.hid (fun w => noughts_calls C (by omega) w)
  have hz8 : by8 (bts (zeros C)) = zeros C := by8_bts _ (zeros_lt _)
  have hzs : (bts (zeros C)).size ≤ 100000 := by rw [bts_size, zeros_length]; omega
  have hstr : ∀ w, Sp w0 (wrt b l :: L) w → Calls Try.prog 64 #[.pointer (some ⟨b, 0, none⟩), .string (bts (zeros C))] w fun e w' => e = .returned (.tuple #[.int .i64 (bts (zeros C)).size, .nilIface]) ∧ Sp w0 (wrt b (l ++ zeros C) :: L) w' := fun w h => by
    have := str_calls (bts (zeros C)) h (by omega) hzs
    rw [hz8] at this
    exact this
  have HLEN := Lib.hid hlen
  have HSTR := Lib.hid hstr
  have H := Lib.hid h.drew
  generalize hZ : bts (zeros C) = Z at HZ HSTR
  clear h hlen hstr hz8 hzs hN hC hm hm2 hZ
  go_enter Try.func67, Try.ntmps67
  go_region_held3 (fun w' => True)
    (first | assumption | trivial)
    (first
      | (go_at_call 76; refine (HLEN.out _ H.out).mono ?_; rintro e w2 ⟨rfl, rfl⟩; have hT : True := trivial)
      | (go_at_call 50; refine (HZ.out _).mono ?_; rintro e w2 ⟨rfl, hb2⟩; have H := Lib.hid (H.out.step hb2); have hT : True := trivial)
      | (go_at_call 64; refine (HSTR.out _ H.out).mono ?_; rintro e w2 ⟨rfl, h2⟩; have H2 := Lib.hid h2; have hT : True := trivial))
  go_end0
  exact ⟨rfl, H2.out⟩
end
end Go.Proofs.Ytmpbohbecidkhaa.Wr
