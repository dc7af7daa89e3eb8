/- RingNeeds: for every number both ways of reckoning a batch's head and need agree, and so does the most; walked. -/
import Derived.Test.YtanaaleojpbfbaaRingWakes
namespace Go.Proofs.Ytanaaleojpbfbaa.RingNeedsW
open Go.RowKit Go.Proofs.Ytanaaleojpbfbaa.Mem Go.Proofs.Ytanaaleojpbfbaa.Ring Go.Proofs.Ytanaaleojpbfbaa.RingW Go.Proofs.YtanaaleojpbfbaaW.PrintWords
set_option linter.unusedVariables false
set_option linter.unusedSimpArgs false

set_option maxHeartbeats 800000 in
set_option maxRecDepth 100000 in
theorem walk (n : Int) (w : World) (w0 : (Lit.int .i64 n).wf = true) :
    Calls Try.prog 3 #[.int .i64 n] w fun e w' => e = .returned (.bool true) ∧ Below w.heap.size w w' := by
  go_enter Try.func3, Try.ntmps3
  go_wp2
  obtain ⟨m, hm⟩ : ∃ m : Int, m = bits BinOp.and IntKind.i64 n 127 := ⟨_, rfl⟩
  rw [← hm]
  clear hm
  go_loopw [10] (fun i wr => (i = .int .i64 0 ∨ i = .int .i64 1 ∨ i = .int .i64 2) ∧ Blk wr w.heap.size #[.int .i64 n, .int .i64 m] 3 ∧ Below w.heap.size w wr) (fun i _ => 2 - (intOf i).toNat)
  case atStart => exact ⟨.inl rfl, Blk.new _ _ _, ba (br _) _⟩
  case round =>
    obtain ⟨hi, hb, hB⟩ := hrel
    have c0 : wr.cell? ⟨w.heap.size, 0, none⟩ = some (.int .i64 n) := hb.cell 0
    have c1 : wr.cell? ⟨w.heap.size, 1, none⟩ = some (.int .i64 m) := hb.cell 1
    rcases hi with rfl | rfl | rfl
    · obtain ⟨h, hh1, hh2⟩ := heads n
      obtain ⟨d, hd1, hd2⟩ := needs n
      have H1 := Lib.hid hh1; have H2 := Lib.hid hh2; have D1 := Lib.hid hd1; have D2 := Lib.hid hd2
      clear hh1 hh2 hd1 hd2
      go_wp2_with fail
      refine (PRingNeeds.ring_Head.calls n h _ H1.out).mono ?_
      rintro e w1 ⟨rfl, ⟨n1, rfl⟩⟩
      go_wp2_with fail
      refine (PRingNeeds.trunnionref13_Head.calls 12 n h _ H2.out).mono ?_
      rintro e w2 ⟨rfl, ⟨n2, rfl⟩⟩
      go_wp2_with fail
      refine (PRingNeeds.ring_Need.calls n d _ D1.out).mono ?_
      rintro e w3 ⟨rfl, ⟨n3, rfl⟩⟩
      go_wp2_with fail
      refine (PRingNeeds.trunnionref13_Need.calls 12 n d _ D2.out).mono ?_
      rintro e w4 ⟨rfl, ⟨n4, rfl⟩⟩
      go_wp2_with fail
      exact ⟨⟨.inr (.inl rfl), hb.drewN _, bd hB _⟩, by simp [intOf]⟩
    · obtain ⟨h, hh1, hh2⟩ := heads m
      obtain ⟨d, hd1, hd2⟩ := needs m
      have H1 := Lib.hid hh1; have H2 := Lib.hid hh2; have D1 := Lib.hid hd1; have D2 := Lib.hid hd2
      clear hh1 hh2 hd1 hd2
      go_wp2_with fail
      refine (PRingNeeds.ring_Head.calls m h _ H1.out).mono ?_
      rintro e w1 ⟨rfl, ⟨n1, rfl⟩⟩
      go_wp2_with fail
      refine (PRingNeeds.trunnionref13_Head.calls 12 m h _ H2.out).mono ?_
      rintro e w2 ⟨rfl, ⟨n2, rfl⟩⟩
      go_wp2_with fail
      refine (PRingNeeds.ring_Need.calls m d _ D1.out).mono ?_
      rintro e w3 ⟨rfl, ⟨n3, rfl⟩⟩
      go_wp2_with fail
      refine (PRingNeeds.trunnionref13_Need.calls 12 m d _ D2.out).mono ?_
      rintro e w4 ⟨rfl, ⟨n4, rfl⟩⟩
      go_wp2_with fail
      exact ⟨⟨.inr (.inr rfl), hb.drewN _, bd hB _⟩, by simp [intOf]⟩
    · clear c0 c1
      go_wp2_with fail
      refine (wakes_calls _).mono ?_
      rintro e w1 ⟨rfl, hb1⟩
      go_wp2_with fail
      refine (most_calls _).mono ?_
      rintro e w2 ⟨rfl, hb2⟩
      go_wp2_with fail
      refine (PRingNeeds.trunnionref13_Most.calls 60 44 _ ref_most).mono ?_
      rintro e w3 ⟨rfl, ⟨n3, rfl⟩⟩
      go_wp2_with fail
      go_ret
      exact ⟨rfl, bd (bt (bt hB hb1) hb2) _⟩
end Go.Proofs.Ytanaaleojpbfbaa.RingNeedsW
