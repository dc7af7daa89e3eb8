/- The document's Ways of no block: walked; both Ways at any number. -/
import Derived.Test.YtahdhkhgokggbaaAct28Z
namespace Go.Proofs.Ytahdhkhgokggbaa.Judge
open Go.RowKit Go.Proofs.Ytahdhkhgokggbaa.Mem
open Go.Proofs.YtahdhkhgokggbaaW.PrintWords hiding bt
set_option linter.unusedVariables false
set_option linter.unusedSimpArgs false

section
variable {w0 w : World} {O : Nat → Prop} {F B R n : Nat} {st : St} {now lasts : List ByteArray} {since : Since}
set_option maxHeartbeats 2000000 in
theorem rways_no {Q : Nat → Prop} {vN vL vS : Value} {gN gL : Nat} (h : Rf w R Q now lasts since vN vL vS gN gL) (i : Int) (hi : i < 0 ∨ (now.length : Int) ≤ i) :
    Calls Try.prog 34 #[.pointer (some ⟨R, 0, none⟩), .int .i64 i] w fun e w' => e = .returned (.int .i64 0) ∧ Drawn0 w w' := by
  obtain ⟨c0, c1, c2⟩ := h.cells
  obtain ⟨cN, hvN, _, _⟩ := h.n.shape
  rw [hvN] at c0
  obtain ⟨nn, hnn⟩ : ∃ x, x = now.length := ⟨_, rfl⟩
  rw [← hnn] at c0 hi
  clear h hvN hnn c1 c2
  by_cases h0 : i < 0
  · have d0 : decide (i < 0) = true := decide_eq_true h0
    clear hi
    go_enter Try.func34, Try.ntmps34
    go_wp2
    go_ret
    exact ⟨rfl, Drawn0.refl _⟩
  · have d0 : decide (i < 0) = false := decide_eq_false h0
    have d1 : decide ((nn : Int) ≤ i) = true := decide_eq_true (by omega)
    have d2 : (nn : Int) ≤ i := by omega
    clear hi
    go_enter Try.func34, Try.ntmps34
    go_wp2
    go_ret
    exact ⟨rfl, Drawn0.refl _⟩
theorem prways_no (h : Jr w0 O F B R n st now lasts since w) (hr : Rel n st now lasts since) (i : Int) (hi : i < 0 ∨ (n : Int) ≤ i) :
    Calls Try.prog 34 #[.pointer (some ⟨R, 0, none⟩), .int .i64 i] w fun e w' => e = .returned (.int .i64 0) ∧ Jp w0 O F B R n st now lasts since w w' := by
  have hh := h
  obtain ⟨P, C, v, g, Q, vN, vL, vS, gN, gL, h1, h2, h3, h4, h5, h6, h7⟩ := h
  refine (rways_no h2 i (by rw [hr.nl]; exact hi)).mono ?_
  rintro e w' ⟨rfl, k⟩
  exact ⟨rfl, hh.drawn k⟩
/-- In how many ways a block may be: both say the same. -/
theorem both_ways (hr : Rel n st now lasts since) (hn : n ≤ 2048) (hs : since.length ≤ 100000) (i : Int) : ∃ m : Int,
    (∀ w, Jr w0 O F B R n st now lasts since w → Calls Try.prog 33 #[.pointer (some ⟨F, 0, none⟩), .int .i64 i] w fun e w' => e = .returned (.int .i64 m) ∧ Jp w0 O F B R n st now lasts since w w') ∧
    ∀ w, Jr w0 O F B R n st now lasts since w → Calls Try.prog 34 #[.pointer (some ⟨R, 0, none⟩), .int .i64 i] w fun e w' => e = .returned (.int .i64 m) ∧ Jp w0 O F B R n st now lasts since w w' := by
  by_cases hi : i < 0 ∨ (n : Int) ≤ i
  · exact ⟨0, fun w h => pways_no h hr hn hs i hi, fun w h => prways_no h hr i hi⟩
  · obtain ⟨j, rfl⟩ : ∃ j : Nat, i = j := ⟨i.toNat, by omega⟩
    obtain ⟨x, hx⟩ : ∃ x, st[j]? = some x := ⟨_, List.getElem?_eq_getElem (by rw [hr.sl]; omega)⟩
    obtain ⟨_, t, ht, e⟩ := hr.each j x hx
    refine ⟨x.2.length, fun w h => pways h hr hn hs j x hx, fun w h => ?_⟩
    rw [e]
    exact prways h hr hn hs j t ht
end
end Go.Proofs.Ytahdhkhgokggbaa.Judge
