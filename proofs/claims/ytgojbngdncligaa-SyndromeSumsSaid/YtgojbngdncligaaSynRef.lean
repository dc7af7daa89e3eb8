/- The law's columns: facts on the cut; what a walk holds of them. -/
import Derived.Test.YtgojbngdncligaaSynCut
import Derived.Test.YtgojbngdncligaaSynDelta
import Derived.Deep.RegionHeld3
namespace Go.Proofs.Ytgojbngdncligaa.Syn
open Go.RowKit Go.Proofs.Ytgojbngdncligaa.Mem Go.Proofs.Ytgojbngdncligaa.Bulk Go.Proofs.Ytgojbngdncligaa.Lanes Go.Proofs.Ytgojbngdncligaa.Opn
open Go.Proofs.YtgojbngdncligaaW.PrintWords hiding bt
set_option linter.unusedVariables false
set_option linter.unusedSimpArgs false

theorem cut_len (even : Bool) (ss : List ByteArray) : (SynCut.cutL even ss).length = min ss.length 34 := by
  unfold SynCut.cutL; rw [SynCut.foldl_len, List.length_take, List.length_nil]; omega
theorem trim_size (even : Bool) (acc : List ByteArray) (s : ByteArray) (h : ∀ t ∈ acc, t.size ≤ 60) : (SynCut.trim even acc s).size ≤ 60 := by
  unfold SynCut.trim
  cases acc with
  | nil => simp only [ByteArray.size_extract]; omega
  | cons t r =>
    cases even with
    | false => simp only [cond_false, ByteArray.size_extract]; omega
    | true => have := h t (by simp); simp only [cond_true, ByteArray.size_extract]; omega
theorem cut_size (even : Bool) (ss : List ByteArray) : ∀ t ∈ SynCut.cutL even ss, t.size ≤ 60 := by
  have key : ∀ (l acc : List ByteArray), (∀ t ∈ acc, t.size ≤ 60) → ∀ t ∈ l.foldl (SynCut.step even) acc, t.size ≤ 60 := by
    intro l
    induction l with
    | nil => exact fun _ h => h
    | cons s r ih =>
      intro acc h
      refine ih _ (fun t ht => ?_)
      rcases List.mem_append.1 ht with h1 | h1
      · exact h t h1
      · simp at h1; rw [h1]; exact trim_size even acc s h
  exact key _ _ (fun t ht => by simp at ht)


theorem cut_even (ss : List ByteArray) : ∃ n, n ≤ 60 ∧ AllSz n (SynCut.cutL true ss) := by
  have key : ∀ (l acc : List ByteArray) (n : Nat), n ≤ 60 → AllSz n acc → acc ≠ [] → AllSz n (l.foldl (SynCut.step true) acc) := by
    intro l
    induction l with
    | nil => exact fun acc n _ h _ => h
    | cons s r ih =>
      intro acc n hn h h0
      refine ih _ n hn (fun x hx => ?_) (by unfold SynCut.step; simp)
      rcases List.mem_append.1 hx with h1 | h1
      · exact h x h1
      · simp at h1
        cases acc with
        | nil => exact absurd rfl h0
        | cons t q =>
          rw [h1]
          have ht := h t (by simp)
          show ((s.extract 0 (min s.size 60) ++ noughts 60).extract 0 t.size).size = n
          rw [ByteArray.size_extract, ByteArray.size_append, noughts_size]
          omega
  unfold SynCut.cutL
  cases h : ss.take 34 with
  | nil => exact ⟨0, by omega, fun x hx => by simp at hx⟩
  | cons s r =>
    have hs := trim_size true [] s (fun t ht => by simp at ht)
    exact ⟨(SynCut.trim true [] s).size, hs, key r [SynCut.trim true [] s] _ hs (fun x hx => by simp at hx; rw [hx]) (by simp)⟩
/-- Texts in a row of the call's own; else what was there is as it was. -/
structure StL (w : World) (a : Option Addr) (L : List ByteArray) (w' : World) : Prop where
  strs : Strs w' a L
  lt : ∀ x, a = some x → x.block < w'.heap.size
  below : Below w.heap.size w w'
theorem StL.step {w : World} {a : Option Addr} {L : List ByteArray} {x y : World} (h : StL w a L x) (k : Below x.heap.size x y) : StL w a L y :=
  ⟨h.strs.below k h.lt, fun z hz => Nat.lt_of_lt_of_le (h.lt z hz) k.size, bt h.below k⟩
theorem StL.drew {w : World} {a : Option Addr} {L : List ByteArray} {x : World} (h : StL w a L x) : StL w a L x.drew := h.step (bd1 (br _))
theorem StL.alloc {w : World} {a : Option Addr} {L : List ByteArray} {x : World} (h : StL w a L x) (o : Obj) : StL w a L (x.alloc o) := h.step (ba (br _) _)

theorem rd_arr {w : World} : ∀ (n : Nat) (cs : List Value), Rd w (arr 1 .str n) cs → ∃ L : List ByteArray, cs = L.map Value.string ∧ L.length = n ∧ ∀ s ∈ L, s.size ≤ 9223372036854775807
  | 0, cs, h => ⟨[], h, rfl, fun s hs => by simp at hs⟩
  | n + 1, cs, h => by
    obtain ⟨⟨s, h0, z0⟩, h1⟩ := h
    obtain ⟨L, h2, h3, h4⟩ := rd_arr n _ h1
    refine ⟨s :: L, ?_, by simp [h3], fun t ht => ?_⟩
    · rw [← List.take_append_drop 1 cs, h0, h2]; rfl
    · rcases List.mem_cons.1 ht with rfl | h
      · omega
      · exact h4 t h
/-- Texts in the first cells of a block of the call's own. -/
structure StC (w : World) (g : Nat) (L : List ByteArray) (w' : World) : Prop where
  cells : ∀ i s, L[i]? = some s → w'.cell? ⟨g, i, none⟩ = some (.string s)
  below : Below w.heap.size w w'
theorem StC.step {w : World} {g : Nat} {L : List ByteArray} {x y : World} (h : StC w g L x) (k : Below x.heap.size x y) : StC w g L y :=
  ⟨fun i s hs => by rw [k.cell (World.block_lt_of_cell? x _ (h.cells i s hs))]; exact h.cells i s hs, bt h.below k⟩
theorem StC.drew {w : World} {g : Nat} {L : List ByteArray} {x : World} (h : StC w g L x) : StC w g L x.drew := h.step (bd1 (br _))
theorem StC.alloc {w : World} {g : Nat} {L : List ByteArray} {x : World} (h : StC w g L x) (o : Obj) : StC w g L (x.alloc o) := h.step (ba (br _) _)
theorem StC.of_own {w w' : World} {T : TypeId} {v : Value} {L : List ByteArray} {B : Nat} (h : w'.ownsRow B T 1 v L.length (L.map Value.string)) (hb : Below w.heap.size w w') (h0 : 0 < L.length) :
    ∃ g c, v = .slice (some ⟨g, 0, none⟩) L.length c ∧ L.length ≤ c ∧ c ≤ 9223372036854775807 ∧ B ≤ g ∧ g < w'.heap.size ∧ StC w g L w' := by
  rcases h.2 with ⟨hv, h1⟩ | ⟨g, cap, cur, hv, hBg, hg, hnc, hcm, _, _⟩
  · omega
  · refine ⟨g, cap, hv, hnc, by unfold maxLen at hcm; omega, hBg, (Array.getElem?_eq_some_iff.1 hg).1, fun i s hs => ?_, hb⟩
    have := h.cells (g := g) (by rw [hv]; rfl) i (.string s) (by rw [List.getElem?_map, hs]; rfl)
    unfold Addr.add at this
    split at this
    · rename_i h2; subst h2; exact this
    · rw [Nat.zero_add] at this; exact this
theorem four_of {L : List ByteArray} (h : L.length = 4) : ∃ s0 s1 s2 s3, L = [s0, s1, s2, s3] := by
  match L, h with
  | [a, b, c, d], _ => exact ⟨a, b, c, d, rfl⟩
end Go.Proofs.Ytgojbngdncligaa.Syn
