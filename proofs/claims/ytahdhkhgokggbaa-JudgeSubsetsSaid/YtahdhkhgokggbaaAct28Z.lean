/- One call of both disks, whichever. -/
import Derived.Test.YtahdhkhgokggbaaAct28H
namespace Go.Proofs.Ytahdhkhgokggbaa.Judge
open Go.RowKit Go.Proofs.Ytahdhkhgokggbaa.Mem
open Go.Proofs.YtahdhkhgokggbaaW.PrintWords hiding bt
set_option linter.unusedVariables false
theorem act_calls {w0 w : World} {O : Nat → Prop} {F B R n : Nat} {st : St} {now lasts : List ByteArray} {since : Since} (h : Jr w0 O F B R n st now lasts since w) (hr : Rel n st now lasts since) (hn1 : 1 ≤ n) (hn : n ≤ 2048) (hs : since.length ≤ 99999) (a : Ac) (ha : a.ok w0) :
    Calls Try.prog 32 #[.pointer (some ⟨F, 0, none⟩), .pointer (some ⟨R, 0, none⟩), a.v] w fun e w' => e = .returned (.bool true) ∧ Ap w0 O F B R n (since.length + 1) w w' := by
  by_cases h3 : a.k = 3
  · by_cases hb : a.b < 0 ∨ (n : Int) ≤ a.b
    · exact act_get_no h hr hn hs a ha hn1 h3 hb
    · exact act_get_yes h hr hn hs a ha hn1 h3 (by omega)
  · by_cases h4 : a.k = 4
    · exact act_sync h hr hn hs a ha h4
    · by_cases h5 : a.k = 5
      · exact act_settle h hr hn hs a ha hn1 h5
      · by_cases h6 : a.k = 6
        · exact act_fits h hr hn hs a ha hn1 h6
        · exact act_put h hr hn hs a ha ⟨h3, h4, h5, h6⟩
end Go.Proofs.Ytahdhkhgokggbaa.Judge
