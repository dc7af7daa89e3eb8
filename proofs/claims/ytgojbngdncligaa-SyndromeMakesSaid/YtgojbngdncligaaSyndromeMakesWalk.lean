/- SyndromeMakes: the parities of every columns are the document's, or its error; so are all weights; walked. -/
import Derived.Test.YtgojbngdncligaaSynRef
namespace Go.Proofs.Ytgojbngdncligaa.SyndromeMakesW
open Go.RowKit Go.Proofs.Ytgojbngdncligaa.Mem Go.Proofs.Ytgojbngdncligaa.Bulk Go.Proofs.Ytgojbngdncligaa.Opn Go.Proofs.Ytgojbngdncligaa.Syn
set_option linter.unusedVariables false
set_option linter.unusedSimpArgs false

set_option maxHeartbeats 2000000 in
set_option maxRecDepth 100000 in
theorem walk (a0 : Option Addr) (len0 cap0 : Nat) (a1 : Bool) (a2 : Int) (w : World) (f0 : Rd w (.slice 1 16 (.str)) [.slice a0 len0 cap0]) (f2 : (Lit.int .i64 a2).wf = true) :
    Calls Try.prog 8 #[.slice a0 len0 cap0, .bool a1, .int .i64 a2] w fun e w' => e = .returned (.bool true) ∧ Below w.heap.size w w' := by
  obtain ⟨ss, rfl, hn, hcm, hS, hz⟩ := rd_strs f0
  obtain ⟨L, hL⟩ : ∃ L, L = SynCut.cutL a1 ss := ⟨_, rfl⟩
  have hcut := SynCut.cut_calls a0 cap0 ss a1 hn hcm (fun s h => by have := hz s h; omega) w hS
  have hl := Syn.cut_len a1 ss
  have hs := Syn.cut_size a1 ss
  rw [← hL] at hcut hl hs
  have HC := Lib.hid hcut
  have HS := Lib.hid hs
  have hl12 : L.length ≤ 34 := by omega
  obtain ⟨m, hm⟩ : ∃ m, m = bits BinOp.and IntKind.i64 a2 31 := ⟨_, rfl⟩
  have hmw : (Lit.int .i64 m).wf = true := by rw [hm]; exact wf_bits _ _ _ _
  have P1 := Lib.hid (fun wx => power_calls a2 f2 wx)
  have P2 := Lib.hid (fun wx => power_calls m hmw wx)
  clear hcut hl hL hS hz f0 hs f2 hmw
  go_enter Try.func8, Try.ntmps8
  go_wp2_with fail
  refine HC.out.mono ?_
  rintro e w1 ⟨v, rfl, hown, b1⟩
  obtain ⟨a, c, rfl, hc, hc2, hst, hB⟩ := own_strs hown
  have HST := Lib.hid (And.intro hst hB)
  clear hown hst hB
  go_wp2_with fail
  refine (make_calls a c L hc hc2 (by omega) (fun s h => by have := HS.out s h; omega) w1 HST.out.1 HST.out.2).mono ?_
  rintro e w2 ⟨rfl, b2⟩
  have hst2 := HST.out.1.below b2 HST.out.2
  have HST2 := Lib.hid hst2
  clear hst2
  go_wp2_with fail
  refine (ref_make_calls a c L (by omega) hc w2 HST2.out).mono ?_
  rintro e w3 ⟨rfl, b3⟩
  go_wp2_with fail
  refine (Syn.wakes_calls _).mono ?_
  rintro e w4 ⟨rfl, b4⟩
  go_wp2_with fail
  refine (P1.out _).mono ?_
  rintro e w5 ⟨rfl, b5⟩
  go_wp2_with fail
  refine (ref_power_calls a2 _).mono ?_
  rintro e w6 ⟨rfl, b6⟩
  go_wp2_with fail
  rw [← hm]
  refine (P2.out _).mono ?_
  rintro e w7 ⟨rfl, b7⟩
  go_wp2_with fail
  rw [← hm]
  refine (ref_power_calls m _).mono ?_
  rintro e w8 ⟨rfl, b8⟩
  clear hm
  go_wp2
  go_ret
  exact ⟨rfl, bt (bt (bt (bt (bt (bt (bt b1 b2) b3) b4) b5) b6) b7) b8⟩
end Go.Proofs.Ytgojbngdncligaa.SyndromeMakesW
