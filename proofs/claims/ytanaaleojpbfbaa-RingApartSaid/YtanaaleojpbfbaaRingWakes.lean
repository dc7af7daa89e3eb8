/- The pure facts on heads and needs, and what the document fixes (wakes), walked. -/
import Derived.Test.YtanaaleojpbfbaaRing
namespace Go.Proofs.Ytanaaleojpbfbaa.RingW
open Go.RowKit Go.Proofs.Ytanaaleojpbfbaa.Mem Go.Proofs.Ytanaaleojpbfbaa.Ring Go.Proofs.YtanaaleojpbfbaaW.PrintWords
set_option linter.unusedVariables false
set_option linter.unusedSimpArgs false

theorem ref_small : ∀ a : Fin 97, PRingNeeds.trunnionref13_Head.f 12 (a.val : Int) = some ((79 + 4 * (a.val : Int)) / 64) := by decide +kernel

theorem ref_head (a : Int) (h0 : 0 ≤ a) (h1 : a ≤ 96) : PRingNeeds.trunnionref13_Head.f 12 a = some ((79 + 4 * a) / 64) := by
  have h := ref_small ⟨a.toNat, by omega⟩
  have e : ((a.toNat : Nat) : Int) = a := by omega
  simp only [e] at h
  exact h

theorem heads (a : Int) : ∃ h, PRingNeeds.ring_Head.f a = some h ∧ PRingNeeds.trunnionref13_Head.f 12 a = some h := by
  by_cases h0 : a < 0
  · exact ⟨0, by unfold PRingNeeds.ring_Head.f; rw [if_pos h0], by unfold PRingNeeds.trunnionref13_Head.f; rw [if_pos h0]; simp [PRingNeeds.trunnionref13_Head.j0]⟩
  · by_cases h1 : a > 96
    · exact ⟨0, by unfold PRingNeeds.ring_Head.f; rw [if_neg h0, if_pos h1], by unfold PRingNeeds.trunnionref13_Head.f; rw [if_neg h0, decide_eq_true h1]; simp [PRingNeeds.trunnionref13_Head.j0]⟩
    · exact ⟨_, head_eq a (by omega) (by omega), ref_head a (by omega) (by omega)⟩

theorem needs (a : Int) : ∃ d, PRingNeeds.ring_Need.f a = some d ∧ PRingNeeds.trunnionref13_Need.f 12 a = some d := by
  obtain ⟨h, e1, e2⟩ := heads a
  unfold PRingNeeds.ring_Need.f PRingNeeds.trunnionref13_Need.f
  rw [e1, e2]
  simp only [Option.bind_some]
  split <;> exact ⟨_, rfl, rfl⟩

theorem ref_most : PRingNeeds.trunnionref13_Most.f 60 = some 44 := by decide +kernel



theorem C_of_blk {w : World} {b : Nat} {xs : List Int} {T : TypeId} (h : Blk w b (xs.map (Value.int .i64)).toArray T) (hl : xs.length ≤ 9223372036854775807) : (Kd.int .i64).C w (some ⟨b, 0, none⟩) xs.length xs := by
  refine ⟨rfl, hl, fun _ => ⟨_, rfl, fun j p hj => ⟨[.int .i64 p], rfl, rfl, fun i u hu => ?_⟩⟩⟩
  cases i with
  | zero =>
    simp only [List.getElem?_cons_zero, Option.some.injEq] at hu
    subst hu
    have := h.cell j
    rw [show ((⟨b, 0, none⟩ : Addr).add (j * (Kd.int .i64).sz + 0)) = ⟨b, j, none⟩ from by rw [add_plain]; simp [Kd.int, Kd.scalar], this]
    simp [hj]
  | succ i => simp at hu

set_option maxHeartbeats 800000 in
set_option maxRecDepth 100000 in
/-- What the document fixes: true. -/
theorem wakes_calls (w : World) : Calls Try.prog 18 #[] w fun e w' => e = .returned (.bool true) ∧ Below w.heap.size w w' := by
  have p2 := fun w => PRingNeeds.ring_Places.calls 5 2 2 [4, 5] 0 w (by decide +kernel)
  have p3 := fun w => PRingNeeds.ring_Places.calls 5 3 2 [52, 53] 0 w (by decide +kernel)
  have P2 := Lib.hid p2
  have P3 := Lib.hid p3
  clear p2 p3
  go_enter Try.func18, Try.ntmps18
  go_wp2_with fail
  refine (P2.out _).mono ?_
  rintro e w1 ⟨v1, rfl, hr1, hb1⟩
  obtain ⟨A1, c1, rfl, hc1, hC1⟩ := Kd.R_reads hr1
  go_wp2_with fail
  refine (P3.out _).mono ?_
  rintro e w2 ⟨v2, rfl, hr2, hb2⟩
  obtain ⟨A2, c2, rfl, hc2, hC2⟩ := Kd.R_reads hr2
  have hC1' := Kd.C_below hC1 hb2
  go_wp2_with fail
  refine (PRingNeeds.ring_Need.calls 3 4 _ (by decide +kernel)).mono ?_
  rintro e w3 ⟨rfl, ⟨nd, rfl⟩⟩
  go_wp2_with fail
  refine (most_calls _).mono ?_
  rintro e w4 ⟨rfl, hb4⟩
  go_wp2_with fail
  have hL1 := C_of_blk (xs := [4, 5]) (Blk.new w4 #[.int .i64 4, .int .i64 5] 3) (by decide)
  refine (PRingNeeds.trunnionlaw13_equal.calls 4 A1 c1 [4, 5] (some ⟨w4.heap.size, 0, none⟩) 2 [4, 5] true _ (Kd.C_below hC1' (ba (bt (bd (br _) nd) hb4) _)) hc1 hL1 (by decide) (by decide +kernel)).mono ?_
  rintro e w5 ⟨rfl, ⟨nd5, rfl⟩⟩
  go_wp2_with fail
  have hL2 := C_of_blk (xs := [52, 53]) (Blk.new ((w4.alloc (.cells #[.int .i64 4, .int .i64 5] 3)).drewN nd5) #[.int .i64 52, .int .i64 53] 3) (by decide)
  refine (PRingNeeds.trunnionlaw13_equal.calls 4 A2 c2 [52, 53] (some ⟨w4.heap.size + 1, 0, none⟩) 2 [52, 53] true _ (Kd.C_below hC2 (ba (bd (ba (bt (bd (br _) nd) hb4) _) _) _)) hc2 (by simpa using hL2) (by decide) (by decide +kernel)).mono ?_
  rintro e w6 ⟨rfl, ⟨nd6, rfl⟩⟩
  go_wp2
  go_ret
  exact ⟨rfl, bd (ba (bd (ba (bt (bt hb1 hb2) (bt (bd (br _) nd) hb4)) _) _) _) _⟩
end Go.Proofs.Ytanaaleojpbfbaa.RingW
