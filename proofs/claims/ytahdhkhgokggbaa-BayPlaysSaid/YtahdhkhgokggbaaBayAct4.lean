/- One call of a bay and of the document's: all of them; walked. -/
import Derived.Test.YtahdhkhgokggbaaBayAct2
import Derived.Test.YtahdhkhgokggbaaBayAct3
namespace Go.Proofs.Ytahdhkhgokggbaa.Bay
open Go.RowKit Go.Proofs.Ytahdhkhgokggbaa.Mem Go.Proofs.Ytahdhkhgokggbaa.Opn Go.Proofs.Ytahdhkhgokggbaa.Sep Go.Proofs.Ytahdhkhgokggbaa.Member
open Go.Proofs.YtahdhkhgokggbaaW.PrintWords hiding bt
set_option linter.unusedVariables false
set_option linter.unusedSimpArgs false
section
variable {w0 w : World} {P R n N : Nat} {ps rs : List Nat} {b : By} {L : List Asn}
theorem bact_calls (h : Sp w0 (bay P ps n b :: rbay R rs n b :: L) w) (k : Nat) (hi : Bi b N k) (hk1 : k < 999999) (hN1 : N ≤ 32) (c : Bm) (hok : c.ok w0) (hn1 : 1 ≤ n) (hn : n ≤ 256) :
    Calls Try.prog 64 #[.pointer (some ⟨P, 0, none⟩), .pointer (some ⟨R, 0, none⟩), .agg (bC c)] w fun e w' => e = .returned (.bool true) ∧ Bacted w0 P R n N k ps rs L w' := by
  by_cases h2 : Go.bits .and .i64 c.x 7 = 2
  · exact bact_read h k hi hk1 hN1 c hok h2
  by_cases h3 : Go.bits .and .i64 c.x 7 = 3
  · exact bact_flush h k hi hk1 hN1 c hok h3
  by_cases h4 : Go.bits .and .i64 c.x 7 = 4
  · exact bact_cut h k hi hk1 hN1 c hok h4
  by_cases h5 : Go.bits .and .i64 c.x 7 = 5
  · exact bact_crash h k hi hk1 hN1 c hok h5
  by_cases h6 : Go.bits .and .i64 c.x 7 = 6
  · exact bact_fail h k hi hk1 hN1 c hok h6
  by_cases h7 : Go.bits .and .i64 c.x 7 = 7
  · exact bact_replace h k hi hk1 hN1 c hok hn1 hn h7
  exact bact_write h k hi hk1 hN1 c hok ⟨h2, h3, h4, h5, h6, h7⟩
end
end Go.Proofs.Ytahdhkhgokggbaa.Bay
