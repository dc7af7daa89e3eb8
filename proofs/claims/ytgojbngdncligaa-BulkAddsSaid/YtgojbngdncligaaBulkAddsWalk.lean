/- BulkAdds: the sum of every buffers is the document's, or its error; walked. -/
import Derived.Test.YtgojbngdncligaaBulkRef
namespace Go.Proofs.Ytgojbngdncligaa.BulkAddsW
open Go.RowKit Go.Proofs.Ytgojbngdncligaa.Mem Go.Proofs.Ytgojbngdncligaa.Bulk Go.Proofs.Ytgojbngdncligaa.Opn
set_option linter.unusedVariables false
set_option linter.unusedSimpArgs false

set_option maxHeartbeats 2000000 in
set_option maxRecDepth 100000 in
theorem walk (a0 : Option Addr) (len0 cap0 : Nat) (a1 : Bool) (w : World) (f0 : Rd w (.slice 1 .str) [.slice a0 len0 cap0]) :
    Calls Try.prog 3 #[.slice a0 len0 cap0, .bool a1] w fun e w' => e = .returned (.bool true) ∧ Below w.heap.size w w' := by
  obtain ⟨ss, rfl, hn, hcm, hS, hz⟩ := rd_strs f0
  obtain ⟨L, hL⟩ : ∃ L, L = BulkCut.cutL a1 ss := ⟨_, rfl⟩
  have hcut := BulkCut.cut_calls a0 cap0 ss a1 hn hcm hz w hS
  have hl := cut_len a1 ss
  have hs := cut_size a1 ss
  rw [← hL] at hcut hl hs
  have HC := Lib.hid hcut
  have HS := Lib.hid hs
  have hl12 : L.length ≤ 12 := by omega
  clear hcut hl hL hS hz f0 hs
  go_enter Try.func3, Try.ntmps3
  go_wp2_with fail
  refine HC.out.mono ?_
  rintro e w1 ⟨v, rfl, hown, b1⟩
  obtain ⟨a, c, rfl, hc, hc2, hst, hB⟩ := own_strs hown
  have HST := Lib.hid (And.intro hst hB)
  clear hown hst hB
  go_wp2_with fail
  refine (add_calls a c L hc hc2 (fun s h => by have := HS.out s h; omega) w1 HST.out.1 HST.out.2).mono ?_
  rintro e w2 ⟨rfl, b2⟩
  have hst2 := HST.out.1.below b2 HST.out.2
  have HST2 := Lib.hid hst2
  clear hst2
  go_wp2_with fail
  refine (ref_add_calls a c L (by omega) hc w2 HST2.out).mono ?_
  rintro e w3 ⟨rfl, b3⟩
  go_wp2_with fail
  refine (wakes_calls _).mono ?_
  rintro e w4 ⟨rfl, b4⟩
  go_wp2
  go_ret
  exact ⟨rfl, bt (bt (bt b1 b2) b3) b4⟩
end Go.Proofs.Ytgojbngdncligaa.BulkAddsW
